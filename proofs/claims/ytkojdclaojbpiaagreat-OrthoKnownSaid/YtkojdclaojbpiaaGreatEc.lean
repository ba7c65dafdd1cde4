/- An interpreter of the model's code that follows one order and is proved right for all: part 3. -/
import Derived.Test.YtkojdclaojbpiaaGreatEb
import Derived.Orders
/- The engine: one operation of a region, run by the machine. -/
namespace Go.Eng
variable {P : Program} {ins kept : List Nat} {n : Nat} {A : AProg} {rn : Run}

/-- what follows an operation that gave a value -/
def NextOk (A : AProg) (p : Option (List Bool)) (ag : List Again) (k : RL) (r : Ex × St) (ρ : Rho) (T : Tr Value) (L : List Value) (H : Heap) (nx : Nat) (w : World) (o : Oper) (c : Act) (next : Act → World → Prop) : Prop :=
  ∀ (v : Value) (H' : Heap) (nx' : Nat) (D' : List Dfd) (ρ' : Rho) (u : Value) (w' : World) (c' : Act), contO A.P p ag k T L D' v H' nx' = some r → VR ρ' v u → Went ρ H nx w ρ' H' nx' w' → DfRs ρ' D' c'.defers → c'.tmps = c.tmps → next (c'.put o.dst u) w'

def PanicOk (r : Ex × St) (ρ : Rho) (T : Tr Value) (D : List Dfd) (H : Heap) (nx : Nat) (w : World) (c : Act) (Q : Exit → Act → World → Prop) : Prop :=
  ∀ ch ch' ρ' H' nx' w', r = (.panic ch, ⟨T, D, H', nx'⟩) → ChRs ρ' ch ch' → Went ρ H nx w ρ' H' nx' w' → Q (.panic ch') c w'

theorem opT_plain {b : AOp Od} (h : b.plain = true) : opT b = oAct := by
  cases b <;> first | rfl | (simp [AOp.plain] at h) | skip

theorem plain_map {α β : Type} (f : α → β) (a : AOp α) : (a.map f).plain = a.plain := by cases a <;> rfl

theorem plain_op {ρ : Rho} {env : Env} {T : Tr Value} {L : List Value} {D : List Dfd} {H : Heap} {nx : Nat} {w : World} {o : Oper} {a : AOp Operand} {b : AOp Od} {c : Act} {r : Ex × St} {p : Option (List Bool)} {ag : List Again} {k : RL}
    {next : Act → World → Prop} {Q : Exit → Act → World → Prop} (hA : A.P = P) (hc : compileOp P ins o = some a) (hp : a.plain = true) (h : a.trav (cv kept n env) = some b) (he : EnvR ρ kept n env T L c) (hD : DfRs ρ D c.defers)
    (hH : HR ρ H nx w.heap) (hr : opT b A rn p ag k b T L D H nx = some r) (hn : NextOk A p ag k r ρ T L H nx w o c next) : o.upon P c next Q ((execOp c.eval o).run P w) := by
  have hb : b.plain = true := by
    rw [(trav_sound (.loc 0) h).1, plain_map]; exact hp
  rw [opT_plain hb] at hr
  have hr' : actT b P T L H nx (contO A.P p ag k T L D) = some r := by rw [← hA]; exact hr
  obtain ⟨v, H', nx', u, w', ρ', h1, h2, h3, h4, h5, h6, h7⟩ := plain_run hc hp h he hH hr'
  have hnext := hn v H' nx' D ρ' u w' c h1 h3 ⟨h4, h5, h6, h7⟩ (hD.mono h5.ext) rfl
  rcases h2 with h2 | ⟨h2, rfl⟩
  · rw [h2]; exact hnext
  · rw [h2]; exact hnext
theorem travL_vals {ρ : Rho} {env : Env} {T : Tr Value} {L : List Value} {c : Act} (he : EnvR ρ kept n env T L c) : ∀ {xs : List Operand} {ys : List Od} {vs : List Value}, travL (cv kept n env) xs = some ys → valsO T L ys = some vs → VRs ρ vs (xs.map c.eval) := by
  intro xs
  induction xs with
  | nil => intro ys vs h1 h2; cases h1; cases h2; exact .nil
  | cons x xs ih =>
    intro ys vs h1 h2
    unfold travL at h1
    cases hx : cv kept n env x with
    | none => simp [hx] at h1
    | some y =>
      cases hxs : travL (cv kept n env) xs with
      | none => simp [hx, hxs] at h1
      | some ys' =>
        simp [hx, hxs] at h1
        subst h1
        unfold valsO at h2
        cases hv : valO T L y with
        | none => simp [hv] at h2
        | some v =>
          cases hvs : valsO T L ys' with
          | none => simp [hv, hvs] at h2
          | some vs' =>
            simp [hv, hvs] at h2
            subst h2
            have := cv_sound he hx
            rw [hv] at this
            exact .cons this (ih hxs hvs)

/-- a call, as the machine sees it -/
theorem enter_op {ρ : Rho} {T : Tr Value} {L : List Value} {D : List Dfd} {H : Heap} {nx : Nat} {w : World} {o : Oper} {c : Act} {r : Ex × St} {p : Option (List Bool)} {ag : List Again} {k : RL} {g : FuncId} {vs us : List Value}
    {next : Act → World → Prop} {Q : Exit → Act → World → Prop} (hcall : CallOk P rn) (hD : DfRs ρ D c.defers) (hH : HR ρ H nx w.heap) (hvs : VRs ρ vs us) (hr : bd (rn.call g vs H nx) (onRet A.P p ag k T L D) = some r)
    (he : (execOp c.eval o).run P w = (callFunc g ⟨us⟩).run P w)
    (hn : NextOk A p ag k r ρ T L H nx w o c next) (hq : PanicOk r ρ T D H nx w c Q) : o.upon P c next Q ((execOp c.eval o).run P w) := by
  obtain ⟨ret, h1, h2⟩ := bd_eq hr
  obtain ⟨hent, hcl⟩ := hcall g vs H nx ret h1
  rw [he, hent.run, Oper.upon_enter]
  refine (hcl ρ us w hvs hH).mono fun e w' hret => ?_
  cases ret with
  | ok v H' nx' =>
    obtain ⟨u, ρ', rfl, hv, hw⟩ := hret
    exact hn v H' nx' D ρ' u w' c h2 hv hw (hD.mono hw.stp.ext) rfl
  | pan ch H' nx' =>
    obtain ⟨ch', ρ', rfl, hch, hw⟩ := hret
    have h3 : some (Ex.panic ch, (⟨T, D, H', nx'⟩ : St)) = some r := h2
    cases h3
    exact hq ch ch' ρ' H' nx' w' rfl hch hw

theorem call_op {ρ : Rho} {env : Env} {T : Tr Value} {L : List Value} {D : List Dfd} {H : Heap} {nx : Nat} {w : World} {o : Oper} {d : Call} {f : Operand} {f' : Od} {args' : List Od} {c : Act} {r : Ex × St} {p : Option (List Bool)} {ag : List Again} {k : RL}
    {next : Act → World → Prop} {Q : Exit → Act → World → Prop} (hcall : CallOk P rn) (ho : o.op = .call d) (hcal : d.callee = .value f) (hf : cv kept n env f = some f') (hargs : travL (cv kept n env) d.args.toList = some args') (he : EnvR ρ kept n env T L c) (hD : DfRs ρ D c.defers)
    (hH : HR ρ H nx w.heap) (hr : opT (.call f' args') A rn p ag k (.call f' args') T L D H nx = some r) (hn : NextOk A p ag k r ρ T L H nx w o c next) (hq : PanicOk r ρ T D H nx w c Q) : o.upon P c next Q ((execOp c.eval o).run P w) := by
  have hr' : evK T L f' (fun f => evsK T L args' fun vs => targetK vs (fun g vs => bd (rn.call g vs H nx) (onRet A.P p ag k T L D)) f) = some r := hr
  rw [evK_eq] at hr'
  obtain ⟨fv, hfv, h1⟩ := bd_eq hr'
  rw [evsK_eq] at h1
  obtain ⟨vs, hvs, h2⟩ := bd_eq h1
  have hvf := cv_sound he hf
  rw [hfv] at hvf
  have hva := travL_vals he hargs hvs
  unfold targetK at h2
  split at h2
  · rename_i g first captured
    have hvf' : VR ρ (.func (.func g) first captured) (c.eval f) := hvf
    generalize hu : c.eval f = u at hvf'
    cases hvf' with
    | sc h => simp [scalar] at h
    | @func _ a a' q q' h3 h4 =>
      refine enter_op hcall hD hH (vs := a ++ vs ++ q) (us := a' ++ d.args.toList.map c.eval ++ q') ((h3.append hva).append h4) h2 ?_ hn hq
      simp only [execOp, ho, resolve, hcal, hu, Deferred.ofValue, Sem.run_bind, Sem.run_pure, Result.andThen_ok, invoke]
      congr 2
      apply Array.ext'
      simp
  · cases h2
theorem pan_op {ρ : Rho} {env : Env} {T : Tr Value} {L : List Value} {D : List Dfd} {H : Heap} {nx : Nat} {w : World} {o : Oper} {x : Operand} {x' : Od} {c : Act} {r : Ex × St} {p : Option (List Bool)} {ag : List Again} {k : RL}
    {next : Act → World → Prop} {Q : Exit → Act → World → Prop} (ho : o.op = .panic x) (hx : cv kept n env x = some x') (he : EnvR ρ kept n env T L c)
    (hH : HR ρ H nx w.heap) (hr : opT (.pan x') A rn p ag k (.pan x') T L D H nx = some r) (hq : PanicOk r ρ T D H nx w c Q) : o.upon P c next Q ((execOp c.eval o).run P w) := by
  have hr' : evK T L x' (panV T D H nx) = some r := hr
  rw [evK_eq] at hr'
  obtain ⟨v, hv, h1⟩ := bd_eq hr'
  have hvx := cv_sound he hx
  rw [hv] at hvx
  unfold panV at h1
  split at h1
  · rename_i t v
    have hvx' : VR ρ (.iface t v) (c.eval x) := hvx
    generalize hu : c.eval x = u at hvx'
    cases hvx' with
    | sc h => simp [scalar] at h
    | @iface _ _ u' hv' =>
      cases h1
      have hrun : (execOp c.eval o).run P w = .halt (.panic (.iface t u')) w := by
        simp only [execOp, ho, hu]
        rfl
      rw [hrun, Oper.upon_panic]
      exact hq _ _ ρ H nx w rfl (.cons (.iface hv') rfl rfl .nil) (.refl hH)
  · cases h1

theorem dfr_op {ρ : Rho} {env : Env} {T : Tr Value} {L : List Value} {D : List Dfd} {H : Heap} {nx : Nat} {w : World} {o : Oper} {d : Call} {f : Operand} {f' : Od} {args' : List Od} {c : Act} {r : Ex × St} {p : Option (List Bool)} {ag : List Again} {k : RL}
    {next : Act → World → Prop} {Q : Exit → Act → World → Prop} (ho : o.op = .defer d) (hcal : d.callee = .value f) (hf : cv kept n env f = some f') (hargs : travL (cv kept n env) d.args.toList = some args') (he : EnvR ρ kept n env T L c) (hD : DfRs ρ D c.defers)
    (hH : HR ρ H nx w.heap) (hr : opT (.dfr f' args') A rn p ag k (.dfr f' args') T L D H nx = some r) (hn : NextOk A p ag k r ρ T L H nx w o c next) : o.upon P c next Q ((execOp c.eval o).run P w) := by
  have hr' : evK T L f' (fun f => evsK T L args' fun vs => onFn f (contO A.P p ag k T L ((f, vs) :: D) undef H nx)) = some r := hr
  rw [evK_eq] at hr'
  obtain ⟨fv, hfv, h1⟩ := bd_eq hr'
  rw [evsK_eq] at h1
  obtain ⟨vs, hvs, h2⟩ := bd_eq h1
  have hvf := cv_sound he hf
  rw [hfv] at hvf
  have hva := travL_vals he hargs hvs
  unfold onFn at h2
  split at h2
  · rename_i g first captured
    have hvf' : VR ρ (.func (.func g) first captured) (c.eval f) := hvf
    generalize hu : c.eval f = u at hvf'
    cases hvf' with
    | sc h => simp [scalar] at h
    | @func _ a a' q q' h3 h4 =>
      have hrun : (execOp c.eval o).run P w = .ok (.defer { target := .fn (.func g) ⟨q'⟩, args := ⟨a' ++ d.args.toList.map c.eval⟩ }) w := by
        simp only [execOp, ho, resolve, hcal, hu, Deferred.ofValue, Sem.run_bind, Sem.run_pure, Result.andThen_ok]
        congr 3
        apply Array.ext'
        simp
      rw [hrun, Oper.upon_defer]
      exact hn undef H nx _ ρ undef w { c with defers := _ :: c.defers } h2 .undef (.refl hH) (.cons ⟨g, a, a', q, q', _, rfl, rfl, h3, h4, hva⟩ hD) rfl
  · cases h2
end Go.Eng
/- The engine: a method that is called. -/
namespace Go.Eng
variable {P : Program} {ins kept : List Nat} {n : Nat} {A : AProg} {rn : Run} {ρ : Rho} {H : Heap} {nx : Nat} {w : World} {r : Ex × St}

theorem aggSize_eq (t : TypeId) : aggSize P t = aggC P t := rfl

theorem find_toList {α : Type} (p : α → Bool) (a : Array α) : a.find? p = a.toList.find? p := by simp

theorem method_sound {fuel : Nat} {t : TypeId} {v u : Value} {name : String} {m : FuncId × Option (Option Nat)} {k : Value → R0} (hH : HR ρ H nx w.heap) (hv : VR ρ v u) (hm : methodOf P t name = some m) (hr : recvK H v m.2 k = some r) :
    ∃ x y, k x = some r ∧ (method (fuel + 1) t u name).run P w = .ok (m.1, y) w ∧ VR ρ x y := by
  unfold methodOf at hm
  split at hm
  · rename_i i hi
    split at hm
    · rename_i q hq
      have hq' : i.methods.find? (·.name == name) = some q := by rw [find_toList]; exact hq
      cases hp : q.path.isEmpty with
      | false => rw [hp] at hm; cases hm
      | true =>
        rw [hp] at hm
        simp only [cond_true] at hm
        have hpath : q.path.toList = [] := by
          have : q.path = #[] := by simpa using hp
          rw [this]
        have hti : (typeInfo t).run P w = .ok i w := run_info hi
        split at hm
        · rename_i f e hf hu
          cases hm
          refine ⟨v, u, hr, ?_, hv⟩
          simp only [method, Sem.run_bind, hti, Result.andThen_ok, hq', hpath, follow, Sem.run_pure, hf, receiverAt, run_underlying hu, Place.get]
        · rename_i f e hf hu
          cases hg : aggSize P e with
          | none => simp [hg] at hm
          | some g =>
            simp [hg] at hm
            subst hm
            have hr' : (onPtr v fun b o => cellsK H b fun cs => bd (partOf cs o g) k) = some r := hr
            obtain ⟨b, o, rfl, h1⟩ := onPtr_some hr'
            obtain ⟨cs, hb, h2⟩ := cellsK_some h1
            obtain ⟨x, hx, h3⟩ := bd_eq h2
            obtain ⟨s, hs, rfl⟩ := hv.ptr_inv
            obtain ⟨s', hs', hbr⟩ := hH.blk b _ hb
            rw [hs] at hs'; cases hs'
            obtain ⟨y, hy, hxy⟩ := load_sound (w := w) (aggSize_eq e ▸ hg) hbr hx
            refine ⟨x, y, h3, ?_, hxy⟩
            simp only [method, Sem.run_bind, hti, Result.andThen_ok, hq', hpath, follow, Sem.run_pure, hf, receiverAt, run_underlying hu, Place.get]
            have hck : ∀ nm : String, (Builtin.ssaWrapNilChk_ #[t] t #[.pointer (some ⟨s.blk, s.sh + o, none⟩), strVal "", strVal nm]).run P w = .ok (.pointer (some ⟨s.blk, s.sh + o, none⟩)) w := fun _ => rfl
            have has : (asAddr (.pointer (some ⟨s.blk, s.sh + o, none⟩))).run P w = .ok ⟨s.blk, s.sh + o, none⟩ w := rfl
            simp only [hp, if_true, Sem.run_bind, hck, has, Result.andThen_ok, hy, Sem.run_pure]
        · rename_i f d hn hf hu
          cases hm
          refine ⟨v, u, hr, ?_, hv⟩
          simp only [method, Sem.run_bind, hti, Result.andThen_ok, hq', hpath, follow, Sem.run_pure, hf, receiverAt, run_underlying hu, Place.get]
        · cases hm
    · cases hm
  · cases hm
theorem inv_op {env : Env} {T : Tr Value} {L : List Value} {D : List Dfd} {o : Oper} {d : Call} {x : Operand} {name : String} {x' : Od} {args' : List Od} {c : Act} {p : Option (List Bool)} {ag : List Again} {k : RL}
    {next : Act → World → Prop} {Q : Exit → Act → World → Prop} (hA : A.P = P) (hcall : CallOk P rn) (ho : o.op = .call d) (hcal : d.callee = .invoke x name) (hx : cv kept n env x = some x') (hargs : travL (cv kept n env) d.args.toList = some args') (he : EnvR ρ kept n env T L c) (hD : DfRs ρ D c.defers)
    (hH : HR ρ H nx w.heap) (hr : opT (.inv x' name args') A rn p ag k (.inv x' name args') T L D H nx = some r) (hn : NextOk A p ag k r ρ T L H nx w o c next) (hq : PanicOk r ρ T D H nx w c Q) : o.upon P c next Q ((execOp c.eval o).run P w) := by
  have hr' : evK T L x' (fun x => evsK T L args' fun vs => invV A.P name H (fun g v => bd (rn.call g (v :: vs) H nx) (onRet A.P p ag k T L D)) x) = some r := hr
  rw [evK_eq] at hr'
  obtain ⟨xv, hxv, h1⟩ := bd_eq hr'
  rw [evsK_eq] at h1
  obtain ⟨vs, hvs, h2⟩ := bd_eq h1
  have hvx := cv_sound he hx
  rw [hxv] at hvx
  have hva := travL_vals he hargs hvs
  unfold invV at h2
  split at h2
  · rename_i t v
    obtain ⟨m, hm, h3⟩ := bd_eq h2
    rw [hA] at hm
    have hvx' : VR ρ (.iface t v) (c.eval x) := hvx
    generalize hu : c.eval x = u at hvx'
    cases hvx' with
    | sc h => simp [scalar] at h
    | @iface _ _ u' hv' =>
      have hd : 0 < Made.depth := by decide
      have hfuel : ∃ q, P.types.size + Made.depth = q + 1 := ⟨P.types.size + Made.depth - 1, by omega⟩
      obtain ⟨q, hq'⟩ := hfuel
      obtain ⟨y, z, h4, h5, h6⟩ := method_sound (w := w) (fuel := q) hH hv' hm h3
      refine enter_op hcall hD hH (vs := y :: vs) (us := z :: d.args.toList.map c.eval) (.cons h6 hva) h4 ?_ hn hq
      have hp : (program).run P w = .ok P w := rfl
      simp only [execOp, ho, resolve, hcal, hu, Sem.run_bind, Sem.run_pure, Result.andThen_ok, invoke]
      have hget : (#[Value.iface t u'] ++ d.args.map c.eval)[0]? = some (.iface t u') := by rw [Array.getElem?_append_left (by simp)]; rfl
      simp only [hget, callMethod, Sem.run_bind, hp, Result.andThen_ok, hq', h5]
      congr 2
      apply Array.ext'
      simp
      rw [List.take_of_length_le (by simp)]
  · cases h2
end Go.Eng
/- The engine: every operation of a region, run by the machine. -/
namespace Go.Eng
variable {P : Program} {ins kept : List Nat} {n : Nat} {A : AProg} {rn : Run} {ρ : Rho} {H : Heap} {nx : Nat} {w : World} {r : Ex × St}

/-- what an operation was compiled from, where it is no plain one -/
def From (o : Oper) : AOp Operand → Prop
  | .call f args => ∃ d, o.op = .call d ∧ d.callee = .value f ∧ args = d.args.toList
  | .inv x name args => ∃ d, o.op = .call d ∧ d.callee = .invoke x name ∧ args = d.args.toList
  | .dfr f args => ∃ d, o.op = .defer d ∧ d.callee = .value f ∧ args = d.args.toList
  | .pan x => o.op = .panic x
  | _ => True

theorem From.plain {o : Oper} {a : AOp Operand} (h : a.plain = true) : From o a := by
  cases a <;> first | trivial | (simp [AOp.plain] at h)

theorem compileBuiltin_from {b : Builtin} {ts : Array TypeId} {args : Array Operand} {o : Oper} {a : AOp Operand} (h : compileBuiltin P b ts args = some a) : From o a := by
  unfold compileBuiltin at h
  repeat' split at h
  all_goals first
    | (cases h; done)
    | (cases h; trivial)
    | (revert h; generalize Nat.beq _ _ = q; intro h; cases q <;> first | (cases h; done) | (cases h; trivial))

theorem bif_some {α : Type} {c : Bool} {x : Option α} {a : α} (h : (bif c then x else none) = some a) : x = some a := by
  cases c
  · cases h
  · exact h

theorem compile_from {o : Oper} {a : AOp Operand} (h : compileOp P ins o = some a) : From o a := by
  cases ho : o.op with
  | call d =>
    simp only [compileOp, ho] at h
    cases hc : d.callee with
    | builtin b => simp only [hc] at h; exact compileBuiltin_from h
    | invoke x name => simp only [hc] at h; cases h; exact ⟨d, ho, hc, rfl⟩
    | value f =>
      cases f with
      | func g =>
        simp only [hc] at h
        cases hg : isIn ins g with
        | true =>
          rw [hg] at h
          simp only [cond_true] at h
          repeat' split at h
          all_goals first | (cases h; done) | (cases h; trivial)
        | false => rw [hg] at h; cases h; exact ⟨d, ho, hc, rfl⟩
      | _ => simp only [hc] at h; cases h; exact ⟨d, ho, hc, rfl⟩
  | defer d =>
    simp only [compileOp, ho] at h
    split at h
    · rename_i f hc; cases h; exact ⟨d, ho, hc, rfl⟩
    · cases h
  | panic x => simp only [compileOp, ho] at h; cases h; exact ho
  | binOp op t x y q =>
    simp only [compileOp, ho, compileBin] at h
    repeat' split at h
    all_goals first
      | (cases h; done)
      | (cases h; trivial)
      | (revert h; generalize (isConstOp x || isConstOp y) = q; intro h; cases q <;> first | (cases h; done) | (cases h; trivial))
  | makeFunc fn xs ys =>
    cases fn with
    | func f => simp only [compileOp, ho] at h; cases h; trivial
    | _ => simp only [compileOp, ho] at h; cases h
  | _ =>
    unfold compileOp at h
    rw [ho] at h
    simp only at h
    repeat' split at h
    all_goals first
      | (cases h; done)
      | (cases h; trivial)
      | (simp only [Option.map_eq_some_iff] at h; obtain ⟨_, _, rfl⟩ := h; trivial)
      | (have h := bif_some h; first | (cases h; trivial) | (simp only [Option.map_eq_some_iff] at h; obtain ⟨_, _, rfl⟩ := h; trivial))

/-- the operation that stands for a whole function: its contract -/
theorem onI64_some {v : Value} {k : Nat → R0} {r : Ex × St} (h : onI64 v k = some r) : ∃ n, v = .int .i64 (.ofNat n) ∧ k n = some r := by
  unfold onI64 at h
  split at h
  · exact ⟨_, rfl, h⟩
  · cases h

def InsOk (P : Program) (ins : List Nat) : Prop := ∀ o z bytes s i v, compileOp P ins o = some (.ins z bytes s i v) → ∀ (ρ : Rho) (H : Heap) (nx : Nat) (w : World) (sv iv vv : Value) (c : Act), VR ρ sv (c.eval s) → VR ρ iv (c.eval i) → VR ρ vv (c.eval v) → HR ρ H nx w.heap →
  ∀ (k : KA) (r : Ex × St), (onI64 iv fun i => onSl sv fun b o z1 len cp => onSl vv (insV z bytes H nx k i b o z1 len cp)) = some r →
    ∃ g us, (execOp c.eval o).run P w = .ok (.enter g us) w ∧ Calls P g us w fun e w' => ∃ x H' nx' u ρ', k x H' nx' = some r ∧ e = .returned u ∧ VR ρ' x u ∧ Went ρ H nx w ρ' H' nx' w'

theorem op_run {env : Env} {T : Tr Value} {L : List Value} {D : List Dfd} {o : Oper} {a : AOp Operand} {b : AOp Od} {c : Act} {p : Option (List Bool)} {ag : List Again} {k : RL}
    {next : Act → World → Prop} {Q : Exit → Act → World → Prop} (hA : A.P = P) (hcall : CallOk P rn) (hins : InsOk P ins) (hc : compileOp P ins o = some a) (h : a.trav (cv kept n env) = some b) (he : EnvR ρ kept n env T L c) (hD : DfRs ρ D c.defers)
    (hH : HR ρ H nx w.heap) (hr : opT b A rn p ag k b T L D H nx = some r) (hn : NextOk A p ag k r ρ T L H nx w o c next) (hq : PanicOk r ρ T D H nx w c Q) : o.upon P c next Q ((execOp c.eval o).run P w) := by
  by_cases hp : a.plain = true
  · exact plain_op hA hc hp h he hD hH hr hn
  · have hfrom := compile_from hc
    cases a with
    | call f args =>
      obtain ⟨d, g1, g2, g3⟩ := hfrom
      simp only [AOp.trav] at h
      split at h
      · rename_i f' args' hf hargs
        cases h
        subst g3
        exact call_op hcall g1 g2 hf hargs he hD hH hr hn hq
      · cases h
    | inv x name args =>
      obtain ⟨d, g1, g2, g3⟩ := hfrom
      simp only [AOp.trav] at h
      split at h
      · rename_i x' args' hx hargs
        cases h
        subst g3
        exact inv_op hA hcall g1 g2 hx hargs he hD hH hr hn hq
      · cases h
    | dfr f args =>
      obtain ⟨d, g1, g2, g3⟩ := hfrom
      simp only [AOp.trav] at h
      split at h
      · rename_i f' args' hf hargs
        cases h
        subst g3
        exact dfr_op g1 g2 hf hargs he hD hH hr hn
      · cases h
    | pan x =>
      simp only [AOp.trav] at h
      split at h
      · rename_i x' hx
        cases h
        exact pan_op hfrom hx he hH hr hq
      · cases h
    | rcv =>
      simp only [AOp.trav] at h
      cases h
      cases hr
    | ins z bytes s i v =>
      simp only [AOp.trav] at h
      split at h
      · rename_i s' i' v' hs hi hv
        cases h
        have hr' : evK T L s' (fun s => evK T L i' fun i => onI64 i fun i => evK T L v' fun v => onSl s fun b o z1 len cp => onSl v (insV z bytes H nx (contO A.P p ag k T L D) i b o z1 len cp)) = some r := hr
        rw [evK_eq] at hr'
        obtain ⟨sv, hsv, h1⟩ := bd_eq hr'
        rw [evK_eq] at h1
        obtain ⟨iv, hiv, h2⟩ := bd_eq h1
        obtain ⟨m, rfl, h3⟩ := onI64_some h2
        rw [evK_eq] at h3
        obtain ⟨vv, hvv, h4⟩ := bd_eq h3
        have r1 := cv_sound he hs
        have r2 := cv_sound he hi
        have r3 := cv_sound he hv
        rw [hsv] at r1
        rw [hiv] at r2
        rw [hvv] at r3
        obtain ⟨g, us, q1, q2⟩ := hins o z bytes s i v hc ρ H nx w sv _ vv c r1 r2 r3 hH (contO A.P p ag k T L D) r h4
        rw [q1, Oper.upon_enter]
        refine q2.mono fun e w' hret => ?_
        obtain ⟨x, H', nx', u, ρ', h5, rfl, h6, h7⟩ := hret
        exact hn x H' nx' D ρ' u w' c h5 h6 h7 (hD.mono h7.stp.ext) rfl
      · cases h
    | _ => exact absurd rfl hp
end Go.Eng
/- The engine: an operation hands what it comes to on to whatever follows. -/
namespace Go.Eng
variable {P : Program} {T : Tr Value} {L : List Value} {H : Heap} {nx : Nat}

def Det {X : Type} (F : (X → R0) → R0) : Prop := ∀ k r, F k = some r → ∃ x, k x = some r ∧ ∀ k', F k' = k' x
def DetP {X : Type} (p : X → Prop) (F : (X → R0) → R0) : Prop := ∀ k r, F k = some r → ∃ x, k x = some r ∧ (∀ k', F k' = k' x) ∧ p x
theorem DetP.det {X : Type} {p : X → Prop} {F : (X → R0) → R0} (h : DetP p F) : Det F := fun k r hr => let ⟨x, h1, h2, _⟩ := h k r hr; ⟨x, h1, h2⟩

section comb
variable {X α : Type} {p : X → Prop}
theorem DetP.ret (x : X) (hp : p x) : DetP p fun k => k x := fun _ _ h => ⟨x, h, fun _ => rfl, hp⟩
theorem DetP.no : DetP p fun _ => none := fun _ _ h => by cases h
theorem DetP.bd {o : Option α} {F : α → (X → R0) → R0} (h : ∀ a, DetP p (F a)) : DetP p fun k => bd o fun a => F a k := by
  cases o with
  | none => exact .no
  | some a => exact h a
theorem DetP.ev {x : Od} {F : Value → (X → R0) → R0} (h : ∀ a, DetP p (F a)) : DetP p fun k => evK T L x fun a => F a k := by
  intro k r hr
  simp only [evK_eq] at hr ⊢
  exact DetP.bd h k r hr
theorem DetP.evs {xs : List Od} {F : List Value → (X → R0) → R0} (h : ∀ a, DetP p (F a)) : DetP p fun k => evsK T L xs fun a => F a k := by
  intro k r hr
  simp only [evsK_eq] at hr ⊢
  exact DetP.bd h k r hr
theorem DetP.parts {xs : List (Nat × Nat × Od)} {F : List (Nat × Nat × Value) → (X → R0) → R0} (h : ∀ a, DetP p (F a)) : DetP p fun k => partsK T L xs fun a => F a k := by
  intro k r hr
  simp only [partsK_eq] at hr ⊢
  exact DetP.bd h k r hr
theorem DetP.cond {c : Bool} {F G : (X → R0) → R0} (h : DetP p F) (h' : DetP p G) : DetP p fun k => cond c (F k) (G k) := by
  cases c
  · exact h'
  · exact h
theorem DetP.nat {v : Value} {F : Nat → (X → R0) → R0} (h : ∀ a, DetP p (F a)) : DetP p fun k => onNat v fun a => F a k := by
  unfold onNat
  split
  · exact h _
  · exact .no
theorem DetP.i64 {v : Value} {F : Nat → (X → R0) → R0} (h : ∀ a, DetP p (F a)) : DetP p fun k => onI64 v fun a => F a k := by
  unfold onI64
  split
  · exact h _
  · exact .no
theorem DetP.agg {v : Value} {F : List Value → (X → R0) → R0} (h : ∀ a, DetP p (F a)) : DetP p fun k => onAgg v fun a => F a k := by
  unfold onAgg
  split
  · exact h _
  · exact .no
theorem DetP.ptr {v : Value} {F : Nat → Nat → (X → R0) → R0} (h : ∀ a b, DetP p (F a b)) : DetP p fun k => onPtr v fun a b => F a b k := by
  unfold onPtr
  split
  · exact h _ _
  · exact .no
theorem DetP.sl {v : Value} {F : Nat → Nat → Nat → Nat → Nat → (X → R0) → R0} (h : ∀ a b c d e, DetP p (F a b c d e)) : DetP p fun k => onSl v fun a b c d e => F a b c d e k := by
  unfold onSl
  split
  · exact h _ _ _ _ _
  · exact .no
theorem DetP.bool {v : Value} {F G : (X → R0) → R0} (h : DetP p F) (h' : DetP p G) : DetP p fun k => onBool v (F k) (G k) := by
  unfold onBool
  split
  · exact .cond h h'
  · exact .no
theorem DetP.cells {b : Nat} {F : List Value → (X → R0) → R0} (h : ∀ a, DetP p (F a)) : DetP p fun k => cellsK H b fun a => F a k := by
  unfold cellsK onCells
  cases getP H (at_ b) with
  | none => exact .no
  | some x => cases x with
    | cells cs => exact h _
    | map es c => exact .no
theorem DetP.mapB {b : Option Blk} {F : List MapEntry → Nat → (X → R0) → R0} (h : ∀ a c, DetP p (F a c)) : DetP p fun k => onMapB b fun a c => F a c k := by
  unfold onMapB
  cases b with
  | none => exact .no
  | some x => cases x with
    | cells cs => exact .no
    | map es c => exact h _ _
theorem DetP.map {m : Value} {F : Nat → List MapEntry → Nat → (X → R0) → R0} (h : ∀ a b c, DetP p (F a b c)) : DetP p fun k => mapK H m fun a b c => F a b c k := by
  unfold mapK
  split
  · exact .mapB fun _ _ => h _ _ _
  · exact .no
theorem DetP.opt {x : Option Od} {d : Nat} {F : Nat → (X → R0) → R0} (h : ∀ a, DetP p (F a)) : DetP p fun k => optK T L x d fun a => F a k := by
  cases x with
  | none => exact h d
  | some x => exact .ev fun _ => .nat h
theorem DetP.ssl {x : Option Od} {F : Option Value → (X → R0) → R0} (h : ∀ a, DetP p (F a)) : DetP p fun k => sslK T L x fun a => F a k := by
  cases x with
  | none => exact h none
  | some x => exact .ev fun _ => h _
theorem DetP.set {pp : List Bool} {H : Heap} {b : Option Blk} {F : Heap → (X → R0) → R0} (h : ∀ a, DetP p (F a)) : DetP p fun k => setP pp H b fun a => F a k := by
  intro k r hr
  simp only [setP_eq] at hr ⊢
  exact h _ k r hr
theorem DetP.oi {o : Option Nat} {F : (X → R0) → R0} {G : Nat → (X → R0) → R0} (h : DetP p F) (h' : ∀ a, DetP p (G a)) : DetP p fun k => Option.rec (F k) (fun a => G a k) o := by
  cases o with
  | none => exact h
  | some a => exact h' a
end comb

theorem slcM_det {p : Value → Prop} (hp : ∀ v, p v) {mx : Option Od} {b o z l h c : Nat} : DetP p fun k => slcM T L mx k b o z l h c := by
  unfold slcM
  cases mx with
  | none => exact .ret _ (hp _)
  | some m => exact .ev fun _ => .nat fun _ => .cond (.ret _ (hp _)) .no

theorem lookT_detP {p : Value → Prop} (hp : ∀ v, p v) (a : AOp Od) : DetP p fun k => lookT a P T L H k := by
  cases a with
  | mov x => exact .ev fun _ => .ret _ (hp _)
  | pick c x y => exact .ev fun _ => .bool (.ev fun _ => .ret _ (hp _)) (.ev fun _ => .ret _ (hp _))
  | nilck x => exact .ev fun _ => by unfold nilckV; split <;> first | exact .ret _ (hp _) | exact .no
  | ext x i =>
    exact .ev fun _ => by
      unfold extV
      split
      · intro k r hr; simp only [nthK_eq] at hr ⊢; exact DetP.bd (F := fun v k => k v) (fun _ => .ret _ (hp _)) k r hr
      · exact .no
  | fld x off agg => exact .ev fun _ => .agg fun _ => .bd fun _ => .ret _ (hp _)
  | fad x off => exact .ev fun _ => .ptr fun _ _ => .ret _ (hp _)
  | ixs x i z => exact .ev fun _ => .ev fun _ => .nat fun _ => .sl fun _ _ _ _ _ => .cond (.ret _ (hp _)) .no
  | ixa x i n z => exact .ev fun _ => .ev fun _ => .nat fun _ => .ptr fun _ _ => .cond (.ret _ (hp _)) .no
  | ix x i n z agg => exact .ev fun _ => .ev fun _ => .nat fun _ => .agg fun _ => .cond (.bd fun _ => .ret _ (hp _)) .no
  | bin op t x y =>
    exact .ev fun u => .ev fun v => by
      unfold binV
      cases fast op u v with
      | none => exact .bd fun _ => .ret _ (hp _)
      | some x => exact .ret _ (hp _)
  | un op x => exact .ev fun _ => .bd fun _ => .ret _ (hp _)
  | cvt s d x => exact .ev fun _ => .bd fun _ => .ret _ (hp _)
  | mnx mn xs => exact .evs fun _ => .bd fun _ => .ret _ (hp _)
  | six t x i => exact .ev fun _ => .ev fun _ => .bd fun _ => .ret _ (hp _)
  | ssl t x lo hi => exact .ev fun _ => .ssl fun _ => .ssl fun _ => .bd fun _ => .ret _ (hp _)
  | isnil neg kd x y => exact .ev fun _ => .ev fun _ => .bd fun _ => .bd fun _ => .cond (.ret _ (hp _)) .no
  | bld zero parts => exact .parts fun _ => .bd fun _ => .ret _ (hp _)
  | clo fn first cap => exact .evs fun _ => .evs fun _ => .ret _ (hp _)
  | ifc t x => exact .ev fun _ => .ret _ (hp _)
  | tas x t zero ok =>
    exact .ev fun v => by
      unfold tasV
      split
      · exact .cond (.ret _ (hp _)) .no
      · exact .cond (.ret _ (hp _)) (.cond (.ret _ (hp _)) .no)
      · exact .no
  | lod x agg => exact .ev fun _ => .ptr fun _ _ => .cells fun _ => .bd fun _ => .ret _ (hp _)
  | len x => exact .ev fun v => by unfold lenV; split <;> first | exact .ret _ (hp _) | exact .no
  | mln x =>
    exact .ev fun v => by
      unfold mlnV
      split
      · exact .ret _ (hp _)
      · exact .mapB fun _ _ => .ret _ (hp _)
      · exact .no
  | sln x => exact .ev fun v => by unfold slnV; split <;> first | exact .ret _ (hp _) | exact .no
  | cap x =>
    exact .ev fun v => by
      unfold capV
      split
      · exact .ret _ (hp _)
      · exact .cond (.ret _ (hp _)) .no
      · exact .no
  | slc x lo hi mx z =>
    exact .ev fun v => by
      unfold slcV
      split
      · exact .opt fun _ => .opt fun _ => .cond (.ret _ (hp _)) .no
      · exact .opt fun _ => .opt fun _ => .cond (slcM_det hp) .no
      · exact .no
  | sla x lo hi n z => exact .ev fun _ => .ptr fun _ _ => .opt fun _ => .opt fun _ => .cond (.ret _ (hp _)) .no
  | lku x key kt zero ok =>
    exact .ev fun m => .ev fun key => by
      unfold lkuV
      split
      · exact .cond (.bd fun _ => .ret _ (hp _)) .no
      · exact .mapB fun _ _ => .bd fun i => .oi (.ret _ (hp _)) fun _ => .bd fun _ => .ret _ (hp _)
      · exact .no
  | _ => exact .no

theorem lookT_det (a : AOp Od) : Det fun k => lookT a P T L H k := (lookT_detP (p := fun _ => True) (fun _ => trivial) a).det

abbrev VHN := Value × Heap × Nat
def uk (k : VHN → R0) : KA := fun v H nx => k (v, H, nx)

def up (nx : Nat) (x : VHN) : Prop := nx ≤ x.2.2
theorem look_det (f : LK) (h : Det fun k => f P T L H k) : DetP (up nx) fun k => aLook f P T L H nx (uk k) := by
  intro k r hr
  obtain ⟨x, h1, h2⟩ := h _ r hr
  exact ⟨(x, H, nx), h1, fun k' => h2 _, Nat.le_refl _⟩

theorem fresh_det {v : Value} {cs : List Value} : DetP (up nx) fun k => fresh H nx v (uk k) cs := .set fun _ => .ret _ (Nat.le_succ _)
theorem put1_det {b : Nat} {v : Value} {cs : List Value} : DetP (up nx) fun k => put1 H nx b v (uk k) cs := .set fun _ => .ret _ (Nat.le_refl _)
theorem appNew_det {z bytes len n : Nat} {old new : List Value} : DetP (up nx) fun k => appNew z bytes H nx (uk k) len n old new := .cond fresh_det .no
theorem src_det {X : Type} {p : X → Prop} {z : Nat} {v : Value} {F : Nat → List Value → (X → R0) → R0} (h : ∀ a b, DetP p (F a b)) : DetP p fun k => srcK H z (fun a b => F a b k) v := by
  unfold srcK
  split
  · exact h _ _
  · exact .cond (.cond (h _ _) (.cells fun _ => .bd fun _ => h _ _)) .no
  · exact .no
theorem putNth_det {p : VHN → Prop} {v : Value} {F : List Value → (VHN → R0) → R0} (h : ∀ l, DetP p (F l)) : ∀ (l : List Value) (o : Nat) (G : List Value → List Value), DetP p fun k => putNth l o v fun l => F (G l) k := by
  intro l
  induction l with
  | nil => intro o G; exact .no
  | cons c l ih =>
    intro o G
    cases o with
    | zero => exact h _
    | succ o => exact ih o fun l => G (c :: l)
theorem appV_det {z bytes n : Nat} {s : Value} {new : List Value} : DetP (up nx) fun k => appV z bytes H nx (uk k) s n new := by
  unfold appV
  split
  · exact .cond (.ret _ (Nat.le_refl _)) (.cond appNew_det .no)
  · exact .cond (.cond (.ret _ (Nat.le_refl _)) (.cond (.cells fun _ => .bd fun _ => put1_det) (.cells fun _ => .bd fun _ => .cond appNew_det (.set fun _ => appNew_det)))) .no
  · exact .no

theorem actT_detP (a : AOp Od) : DetP (up nx) fun k => actT a P T L H nx (uk k) := by
  cases a with
  | box x => exact .ev fun _ => fresh_det
  | alc zero => exact fresh_det
  | mks z bytes zero l c => exact .ev fun _ => .nat fun _ => .ev fun _ => .nat fun _ => .cond fresh_det .no
  | bsl z len zero parts => exact .parts fun _ => .bd fun _ => .cond fresh_det .no
  | mkm x => exact .opt (d := 0) (F := fun _ k => setP (at_ nx) H (some (Blk.map [] 0)) fun H => k (Value.map (some nx), H, Nat.succ nx)) fun _ => .set fun _ => .ret _ (Nat.le_succ _)
  | sto x v n =>
    exact .ev fun _ => .ev fun v => .ptr fun b o => .cond (.cells fun old => by
      unfold stoL
      cases cellsOf v with
      | nil => exact .no
      | cons c r =>
        cases r with
        | nil => exact putNth_det (F := fun l k => put1 H nx b undef (uk k) l) (fun l => put1_det) old o id
        | cons c2 r => exact .bd fun _ => put1_det) .no
  | app z bytes zero s x zeros =>
    exact .ev fun s => .ev fun x => by
      unfold appSrc
      cases zeros with
      | true => exact .nat fun n => .cond appV_det .no
      | false => exact src_det (F := fun n cs k => appV z bytes H nx (uk k) s n cs) fun _ _ => appV_det
  | cpy z d s =>
    exact .ev fun d => .ev fun s => src_det fun n cs => by
      unfold cpyD
      split
      · exact .ret _ (Nat.le_refl _)
      · exact .sl fun _ _ _ _ _ => .cond (.cond (.ret _ (Nat.le_refl _)) (.bd fun _ => .cond (.cells fun _ => .bd fun _ => put1_det) .no)) .no
  | mup m key v kt => exact .ev fun _ => .ev fun _ => .ev fun _ => .map fun _ _ _ => .bd fun i => .oi (.set fun _ => .ret _ (Nat.le_refl _)) fun _ => .set fun _ => .ret _ (Nat.le_refl _)
  | men m key kt zero => exact .ev fun _ => .ev fun _ => .map fun _ _ _ => .bd fun i => .oi (.set fun _ => .ret _ (Nat.le_refl _)) fun _ => .bd fun _ => .ret _ (Nat.le_refl _)
  | est m s v => exact .ev fun _ => .ev fun _ => .nat fun _ => .ev fun _ => .map fun _ _ _ => .bd fun i => .set fun _ => .ret _ (Nat.le_refl _)
  | ins z bytes s i v =>
    refine .ev fun _ => .ev fun _ => .i64 fun i => .ev fun _ => .sl fun b o z1 len c => .sl fun b2 o2 z2 m c2 => ?_
    unfold insV
    exact .cond (.cells fun _ => .cells fun _ => .bd fun _ => .bd fun _ => .bd fun _ => .cond (.set fun _ => appNew_det) .no) .no
  | call f args => exact .no
  | inv x name args => exact .no
  | dfr f args => exact .no
  | pan x => exact .no
  | rcv => exact .no
  | mov x => exact look_det _ (lookT_det (.mov x))
  | pick c x y => exact look_det _ (lookT_det (.pick c x y))
  | nilck x => exact look_det _ (lookT_det (.nilck x))
  | ext x i => exact look_det _ (lookT_det (.ext x i))
  | fld x off agg => exact look_det _ (lookT_det (.fld x off agg))
  | fad x off => exact look_det _ (lookT_det (.fad x off))
  | ixs x i z => exact look_det _ (lookT_det (.ixs x i z))
  | ixa x i n z => exact look_det _ (lookT_det (.ixa x i n z))
  | ix x i n z agg => exact look_det _ (lookT_det (.ix x i n z agg))
  | bin op t x y => exact look_det _ (lookT_det (.bin op t x y))
  | un op x => exact look_det _ (lookT_det (.un op x))
  | cvt s d x => exact look_det _ (lookT_det (.cvt s d x))
  | mnx mn xs => exact look_det _ (lookT_det (.mnx mn xs))
  | six t x i => exact look_det _ (lookT_det (.six t x i))
  | ssl t x lo hi => exact look_det _ (lookT_det (.ssl t x lo hi))
  | isnil neg kd x y => exact look_det _ (lookT_det (.isnil neg kd x y))
  | bld zero parts => exact look_det _ (lookT_det (.bld zero parts))
  | clo fn first cap => exact look_det _ (lookT_det (.clo fn first cap))
  | ifc t x => exact look_det _ (lookT_det (.ifc t x))
  | tas x t zero ok => exact look_det _ (lookT_det (.tas x t zero ok))
  | lod x agg => exact look_det _ (lookT_det (.lod x agg))
  | len x => exact look_det _ (lookT_det (.len x))
  | mln x => exact look_det _ (lookT_det (.mln x))
  | sln x => exact look_det _ (lookT_det (.sln x))
  | cap x => exact look_det _ (lookT_det (.cap x))
  | slc x lo hi mx z => exact look_det _ (lookT_det (.slc x lo hi mx z))
  | sla x lo hi n z => exact look_det _ (lookT_det (.sla x lo hi n z))
  | lku x key kt zero ok => exact look_det _ (lookT_det (.lku x key kt zero ok))

theorem actT_det (a : AOp Od) : Det fun k => actT a P T L H nx (uk k) := (actT_detP a).det
theorem actT_up {a : AOp Od} {v : Value} {H' : Heap} {nx' : Nat} (h : ∀ k, actT a P T L H nx k = k v H' nx') : nx ≤ nx' := by
  obtain ⟨x, h1, _, h3⟩ := actT_detP (P := P) (T := T) (L := L) (H := H) (nx := nx) a (fun x => some (.normal, ⟨.e, [], .e, x.2.2⟩)) (.normal, ⟨.e, [], .e, nx'⟩) (h _)
  simp only [Option.some.injEq, Prod.mk.injEq, St.mk.injEq, true_and] at h1
  rw [← h1]
  exact h3
end Go.Eng
/- The engine: what the slots hold, as the engine goes through a region. -/
namespace Go.Eng

abbrev Sig := Nat → Value
def Sig.set (σ : Sig) (d : Option Nat) (v : Value) : Sig := match d with
  | none => σ
  | some d => fun t => if t = d then v else σ t

def evS (σ : Sig) : Operand → Value
  | .tmp t => σ t
  | .const v => v
  | .func f => .func (.func f) #[] #[]
  | .global _ => undef

/-- the engine finds each slot's value where it looks for it -/
structure EnvS (kept : List Nat) (σ : Sig) (env : Env) (T : Tr Value) (L : List Value) : Prop where
  env : ∀ t od, (t, od) ∈ env → (valO T L od).getD undef = σ t
  kept : ∀ t, isIn kept t = true → (getP T (slotPath t)).getD undef = σ t

theorem find_mem : ∀ {env : Env} {t : Nat} {x : Od}, find env t = some x → (t, x) ∈ env := by
  intro env
  induction env with
  | nil => intro t x hx; cases hx
  | cons y env ih =>
    intro t x hx
    obtain ⟨a, b⟩ := y
    unfold find at hx
    cases hb : Nat.beq a t with
    | true =>
      rw [hb] at hx; cases hx
      have := Nat.eq_of_beq_eq_true hb
      subst this
      exact List.mem_cons_self
    | false => rw [hb] at hx; exact List.mem_cons_of_mem _ (ih hx)
variable {P : Program} {ins kept : List Nat} {n : Nat} {A : AProg} {rn : Run} {σ : Sig} {T : Tr Value} {L : List Value} {D : List Dfd} {H : Heap} {nx : Nat} {env : Env} {ops : List Oper}

theorem EnvS.ofFind (h : EnvS kept σ env T L) {t : Nat} {od : Od} (hf : find env t = some od) : (valO T L od).getD undef = σ t := h.env t od (find_mem hf)

theorem cv_S (h : EnvS kept σ env T L) {x : Operand} {od : Od} (hc : cv kept n env x = some od) : (valO T L od).getD undef = evS σ x := by
  cases x with
  | tmp t =>
    simp only [cv] at hc
    cases hb : Nat.blt t n with
    | false => rw [hb] at hc; cases hc
    | true =>
      rw [hb] at hc
      simp only [cond_true] at hc
      cases hf : find env t with
      | some y => rw [hf] at hc; cases hc; exact h.ofFind hf
      | none =>
        rw [hf] at hc
        cases hk : isIn kept t with
        | false => rw [hk] at hc; cases hc
        | true => rw [hk] at hc; cases hc; exact h.kept t hk
  | const v =>
    simp only [cv] at hc
    cases hk : constOk v with
    | false => rw [hk] at hc; cases hc
    | true => rw [hk] at hc; cases hc; rfl
  | func f => cases hc; rfl
  | global g => cases hc

theorem map_congr {α β : Type} {f g : α → β} {a : AOp α} (h : a.all fun x => f x = g x) : a.map f = a.map g := by
  have hl : ∀ l : List α, (∀ x ∈ l, f x = g x) → l.map f = l.map g := fun l h => List.map_congr_left h
  have ho : ∀ o : Option α, (∀ x ∈ o, f x = g x) → o.map f = o.map g := by
    intro o h
    cases o with
    | none => rfl
    | some x => rw [Option.map_some, Option.map_some, h x rfl]
  have hp : ∀ l : List (Nat × Nat × α), (∀ x ∈ l, f x.2.2 = g x.2.2) → (l.map fun x => (x.1, x.2.1, f x.2.2)) = l.map fun x => (x.1, x.2.1, g x.2.2) := fun l h => List.map_congr_left fun x hx => by rw [h x hx]
  cases a <;> simp only [AOp.all, AOp.map] at h ⊢ <;> first | rfl | skip
  all_goals grind

/-- an operation over its operands' values -/
theorem trav_S {a : AOp Operand} {b : AOp Od} (h : a.trav (cv kept n env) = some b) (he : EnvS kept σ env T L) : b.map (cstv T L) = a.map (Av (evS σ)) := by
  rw [trav_cst h]
  obtain ⟨_, h2⟩ := trav_sound (.loc 0) h
  refine map_congr (all_mono (fun x hx => ?_) h2)
  obtain ⟨y, hy⟩ := hx
  show Od.cst ((valO T L ((cv kept n env x).getD (.loc 0))).getD undef) = Od.cst (evS σ x)
  rw [hy, Option.getD_some, cv_S he hy]
end Go.Eng
/- The engine: an operation's value is put away; slots are moved into the list. -/
namespace Go.Eng
variable {P : Program} {ins kept : List Nat} {n : Nat} {A : AProg} {rn : Run} {σ : Sig} {T : Tr Value} {L : List Value} {D : List Dfd} {H : Heap} {nx : Nat} {env : Env} {ops : List Oper}

theorem mem_shift {env : Env} {t : Nat} {od : Od} : (t, od) ∈ shiftAll env ↔ ∃ x, (t, x) ∈ env ∧ od = shift x := by
  unfold shiftAll
  rw [List.mem_map]
  constructor
  · rintro ⟨⟨u, x⟩, h, e⟩
    cases e
    exact ⟨x, h, rfl⟩
  · rintro ⟨x, h, rfl⟩
    exact ⟨(t, x), h, rfl⟩

theorem mem_without {env : Env} {d t : Nat} {od : Od} : (t, od) ∈ without env d ↔ (t, od) ∈ env ∧ t ≠ d := by
  unfold without
  rw [List.mem_filter]
  constructor
  · rintro ⟨h, e⟩
    refine ⟨h, fun e' => ?_⟩
    subst e'
    simp at e
  · rintro ⟨h, e⟩
    refine ⟨h, ?_⟩
    simp only [Bool.not_eq_true']
    cases hb : Nat.beq t d with
    | false => rfl
    | true => exact absurd (Nat.eq_of_beq_eq_true hb) e

theorem EnvS.shift (h : EnvS kept σ env T L) (v : Value) : EnvS kept σ (shiftAll env) T (v :: L) := by
  refine ⟨fun t od ht => ?_, h.kept⟩
  obtain ⟨x, hx, rfl⟩ := mem_shift.1 ht
  rw [valO_shift]
  exact h.env t x hx

/-- an operation's value is put away -/
theorem EnvS.put {v : Value} {d : Nat} {keep : Option (List Bool)} {T' : Tr Value} (h : EnvS kept σ env T L)
    (hT : (keep = none ∧ T' = T ∧ isIn kept d = false) ∨ (∃ p, keep = some p ∧ p = slotPath d ∧ T' = insP p T (some v) ∧ (shiftAll env).any (fun e => isVar p e.2) = false)) :
    EnvS kept (σ.set (some d) v) ((d, .loc 0) :: without (shiftAll env) d) T' (v :: L) := by
  refine ⟨fun t od ht => ?_, fun t ht => ?_⟩
  · rcases List.mem_cons.1 ht with e | hm
    · cases e
      show v = if d = d then v else σ d
      rw [if_pos rfl]
    · obtain ⟨hm, hne⟩ := mem_without.1 hm
      have hs : Sig.set σ (some d) v t = σ t := if_neg hne
      rw [hs, ← (h.shift v).env t od hm]
      rcases hT with ⟨_, rfl, _⟩ | ⟨p, _, _, rfl, hany⟩
      · rfl
      · cases od with
        | var q =>
          have hq : q ≠ p := by
            intro e; subst e
            exact List.any_eq_false.1 hany _ hm (isVar_iff.2 rfl)
          show (getP (insP p T (some v)) q).getD undef = (getP T q).getD undef
          rw [getP_insP_ne _ _ _ _ hq]
        | _ => rfl
  · rcases hT with ⟨_, rfl, hk⟩ | ⟨p, _, rfl, rfl, _⟩
    · have : t ≠ d := by intro e; subst e; rw [hk] at ht; cases ht
      have hs : Sig.set σ (some d) v t = σ t := if_neg this
      rw [hs]
      exact h.kept t ht
    · by_cases htd : t = d
      · subst htd
        rw [getP_insP]
        show v = if t = t then v else σ t
        rw [if_pos rfl]
      · have hs : Sig.set σ (some d) v t = σ t := if_neg htd
        rw [hs, getP_insP_ne _ _ _ _ (by rw [slotPath_eq, slotPath_eq]; exact fun e => htd (at_inj e))]
        exact h.kept t ht

/-- what stays as it is, but for the slots' places -/
structure SameBut (s s' : Laid) : Prop where
  loads : s'.loads = s.loads
  heavy : s'.heavy = s.heavy
  make : s'.make = s.make
  done : s'.done = s.done

theorem spill_run {p : List Bool} {rest : List Oper} : ∀ (l : Env) (s : Laid), ∃ new, (spillVar p rest l s).out = new.reverse ++ s.out ∧ SameBut s (spillVar p rest l s) ∧
    (∀ t od, (t, od) ∈ (spillVar p rest l s).env → (∃ od', (t, od') ∈ s.env) ∨ ∃ od', (t, od') ∈ l) ∧
    ∀ later T L D H nx r σ, runOps A rn (new ++ later) T L D H nx = some r → EnvS kept σ s.env T L → (∀ t, (t, .var p) ∈ l → (getP T p).getD undef = σ t) →
      ∃ L', runOps A rn later T L' D H nx = some r ∧ EnvS kept σ (spillVar p rest l s).env T L' := by
  intro l
  induction l with
  | nil => intro s; exact ⟨[], rfl, ⟨rfl, rfl, rfl, rfl⟩, fun t od h => .inl ⟨od, h⟩, fun later T L D H nx r σ h he _ => ⟨L, h, he⟩⟩
  | cons y l ih =>
    intro s
    obtain ⟨t, x⟩ := y
    unfold spillVar
    cases hv : isVar p x with
    | false =>
      simp only [cond_false]
      obtain ⟨new, h1, h2, h3, h4⟩ := ih s
      refine ⟨new, h1, h2, fun t od h => ?_, fun later T L D H nx r σ h he hl => h4 later T L D H nx r σ h he fun t ht => hl t (List.mem_cons_of_mem _ ht)⟩
      rcases h3 t od h with h | ⟨od', h⟩
      · exact .inl h
      · exact .inr ⟨od', List.mem_cons_of_mem _ h⟩
    | true =>
      have hx := isVar_iff.1 hv
      subst hx
      simp only [cond_true]
      cases hr : readLater t rest with
      | false =>
        simp only [cond_false]
        obtain ⟨new, h1, h2, h3, h4⟩ := ih { s with env := without s.env t }
        refine ⟨new, h1, ⟨h2.loads, h2.heavy, h2.make, h2.done⟩, fun t' od h => ?_, fun later T L D H nx r σ h he hl => h4 later T L D H nx r σ h ⟨fun u od hu => he.env u od (mem_without.1 hu).1, he.kept⟩ fun t ht => hl t (List.mem_cons_of_mem _ ht)⟩
        rcases h3 t' od h with ⟨od', h⟩ | ⟨od', h⟩
        · exact .inl ⟨od', (mem_without.1 h).1⟩
        · exact .inr ⟨od', List.mem_cons_of_mem _ h⟩
      | true =>
        simp only [cond_true]
        obtain ⟨new, h1, h2, h3, h4⟩ := ih { s with env := (t, .loc 0) :: without (shiftAll s.env) t, out := (⟨none, none, .mov (.var p)⟩, []) :: s.out }
        refine ⟨(⟨none, none, .mov (.var p)⟩, []) :: new, ?_, ⟨h2.loads, h2.heavy, h2.make, h2.done⟩, fun t' od h => ?_, fun later T L D H nx r σ h he hl => ?_⟩
        · rw [h1]
          simp
        · rcases h3 t' od h with ⟨od', h⟩ | ⟨od', h⟩
          · rcases List.mem_cons.1 h with e | h
            · cases e
              exact .inr ⟨.var p, List.mem_cons_self⟩
            · obtain ⟨x, hx, _⟩ := mem_shift.1 (mem_without.1 h).1
              exact .inl ⟨x, hx⟩
          · exact .inr ⟨od', List.mem_cons_of_mem _ h⟩
        · have h' : evK T L (.var p) (fun v => contO A.P none [] (runOps A rn (new ++ later)) T L D v H nx) = some r := h
          rw [evK_eq] at h'
          obtain ⟨v, hv, h5⟩ := bd_eq h'
          rw [contO_nil] at h5
          have hvt : v = σ t := by
            have := hl t List.mem_cons_self
            have hv' : getP T p = some v := hv
            rw [hv'] at this
            exact this
          refine h4 later T (v :: L) D H nx r σ h5 ⟨fun u od hu => ?_, he.kept⟩ fun t ht => hl t (List.mem_cons_of_mem _ ht)
          rcases List.mem_cons.1 hu with e | hu
          · cases e
            exact hvt
          · exact (he.shift v).env u od (mem_without.1 hu).1
end Go.Eng
/- The engine: what one step of a region comes to. -/
namespace Go.Eng
variable {P : Program} {ins kept : List Nat} {n : Nat} {A : AProg} {rn : Run} {σ : Sig} {T : Tr Value} {L : List Value} {D : List Dfd} {H : Heap} {nx : Nat} {env : Env} {ops : List Oper}

theorem opT_det {b : AOp Od} {p : Option (List Bool)} {ag : List Again} {k : RL} {r : Ex × St} (h : opT b A rn p ag k b T L D H nx = some r) :
    (∃ v D' H' nx', (∀ p' ag' k', opT b A rn p' ag' k' b T L D H nx = contO A.P p' ag' k' T L D' v H' nx') ∧ contO A.P p ag k T L D' v H' nx' = some r ∧ (b.plain = true → D' = D)) ∨
    (∃ ch H' nx', r = (.panic ch, ⟨T, D, H', nx'⟩) ∧ ∀ p' ag' k', opT b A rn p' ag' k' b T L D H nx = some r) := by
  have onret : ∀ (o : Option CRet), bd o (onRet A.P p ag k T L D) = some r →
      (∃ v D' H' nx', (∀ p' ag' k', bd o (onRet A.P p' ag' k' T L D) = contO A.P p' ag' k' T L D' v H' nx') ∧ contO A.P p ag k T L D' v H' nx' = some r) ∨
      (∃ ch H' nx', r = (.panic ch, ⟨T, D, H', nx'⟩) ∧ ∀ p' ag' k', bd o (onRet A.P p' ag' k' T L D) = some r) := by
    intro o ho
    obtain ⟨c, rfl, h1⟩ := bd_eq ho
    cases c with
    | ok v H' nx' => exact .inl ⟨v, D, H', nx', fun _ _ _ => rfl, h1⟩
    | pan ch H' nx' =>
      have h2 : some (Ex.panic ch, (⟨T, D, H', nx'⟩ : St)) = some r := h1
      cases h2
      exact .inr ⟨ch, H', nx', rfl, fun _ _ _ => rfl⟩
  by_cases hp : b.plain = true
  · rw [opT_plain hp] at h ⊢
    have h' : actT b A.P T L H nx (uk fun x => contO A.P p ag k T L D x.1 x.2.1 x.2.2) = some r := h
    obtain ⟨x, h1, h2⟩ := actT_det b _ r h'
    exact .inl ⟨x.1, D, x.2.1, x.2.2, fun p' ag' k' => h2 fun x => contO A.P p' ag' k' T L D x.1 x.2.1 x.2.2, h1, fun _ => rfl⟩
  · cases b with
    | call f args =>
      have h' : evK T L f (fun f => evsK T L args fun vs => targetK vs (fun g vs => bd (rn.call g vs H nx) (onRet A.P p ag k T L D)) f) = some r := h
      rw [evK_eq] at h'
      obtain ⟨fv, hfv, h1⟩ := bd_eq h'
      rw [evsK_eq] at h1
      obtain ⟨vs, hvs, h2⟩ := bd_eq h1
      have e : ∀ p' ag' k', opT (.call f args) A rn p' ag' k' (.call f args) T L D H nx = targetK vs (fun g vs => bd (rn.call g vs H nx) (onRet A.P p' ag' k' T L D)) fv := by
        intro p' ag' k'
        show evK T L f (fun f => evsK T L args fun vs => targetK vs (fun g vs => bd (rn.call g vs H nx) (onRet A.P p' ag' k' T L D)) f) = _
        rw [evK_eq, hfv]
        show evsK T L args _ = _
        rw [evsK_eq, hvs]
        rfl
      unfold targetK at h2
      split at h2
      · rcases onret _ h2 with ⟨v, D', H', nx', g1, g2⟩ | ⟨ch, H', nx', g1, g2⟩
        · exact .inl ⟨v, D', H', nx', fun p' ag' k' => (e p' ag' k').trans (g1 p' ag' k'), g2, fun hp' => absurd hp' hp⟩
        · exact .inr ⟨ch, H', nx', g1, fun p' ag' k' => (e p' ag' k').trans (g2 p' ag' k')⟩
      · cases h2
    | inv x name args =>
      have h' : evK T L x (fun x => evsK T L args fun vs => invV A.P name H (fun g v => bd (rn.call g (v :: vs) H nx) (onRet A.P p ag k T L D)) x) = some r := h
      rw [evK_eq] at h'
      obtain ⟨fv, hfv, h1⟩ := bd_eq h'
      rw [evsK_eq] at h1
      obtain ⟨vs, hvs, h2⟩ := bd_eq h1
      have e : ∀ p' ag' k', opT (.inv x name args) A rn p' ag' k' (.inv x name args) T L D H nx = invV A.P name H (fun g v => bd (rn.call g (v :: vs) H nx) (onRet A.P p' ag' k' T L D)) fv := by
        intro p' ag' k'
        show evK T L x (fun x => evsK T L args fun vs => invV A.P name H (fun g v => bd (rn.call g (v :: vs) H nx) (onRet A.P p' ag' k' T L D)) x) = _
        rw [evK_eq, hfv]
        show evsK T L args _ = _
        rw [evsK_eq, hvs]
        rfl
      have hd : DetP (fun _ => True) fun k' : FuncId × Value → R0 => invV A.P name H (fun g v => k' (g, v)) fv := by
        unfold invV
        split
        · refine .bd fun m => ?_
          unfold recvK
          cases m.2 with
          | none => exact .ret _ trivial
          | some agg => exact .ptr fun _ _ => .cells fun _ => .bd fun _ => .ret _ trivial
        · exact .no
      obtain ⟨y, g1, g2⟩ := hd.det (fun y => bd (rn.call y.1 (y.2 :: vs) H nx) (onRet A.P p ag k T L D)) r h2
      have e2 : ∀ p' ag' k', opT (.inv x name args) A rn p' ag' k' (.inv x name args) T L D H nx = bd (rn.call y.1 (y.2 :: vs) H nx) (onRet A.P p' ag' k' T L D) := fun p' ag' k' =>
        (e p' ag' k').trans (g2 fun y => bd (rn.call y.1 (y.2 :: vs) H nx) (onRet A.P p' ag' k' T L D))
      rcases onret _ g1 with ⟨v, D', H', nx', q1, q2⟩ | ⟨ch, H', nx', q1, q2⟩
      · exact .inl ⟨v, D', H', nx', fun p' ag' k' => (e2 p' ag' k').trans (q1 p' ag' k'), q2, fun hp' => absurd hp' hp⟩
      · exact .inr ⟨ch, H', nx', q1, fun p' ag' k' => (e2 p' ag' k').trans (q2 p' ag' k')⟩
    | dfr f args =>
      have h' : evK T L f (fun f => evsK T L args fun vs => onFn f (contO A.P p ag k T L ((f, vs) :: D) undef H nx)) = some r := h
      rw [evK_eq] at h'
      obtain ⟨fv, hfv, h1⟩ := bd_eq h'
      rw [evsK_eq] at h1
      obtain ⟨vs, hvs, h2⟩ := bd_eq h1
      refine .inl ⟨undef, (fv, vs) :: D, H, nx, fun p' ag' k' => ?_, ?_, fun hp' => absurd hp' hp⟩
      · show evK T L f (fun f => evsK T L args fun vs => onFn f (contO A.P p' ag' k' T L ((f, vs) :: D) undef H nx)) = _
        rw [evK_eq, hfv]
        show evsK T L args _ = _
        rw [evsK_eq, hvs]
        show onFn fv _ = _
        unfold onFn at h2 ⊢
        split at h2
        · rfl
        · cases h2
      · unfold onFn at h2
        split at h2
        · exact h2
        · cases h2
    | pan x =>
      have h' : evK T L x (panV T D H nx) = some r := h
      rw [evK_eq] at h'
      obtain ⟨v, hv, h1⟩ := bd_eq h'
      have h1' := h1
      unfold panV at h1
      split at h1
      · cases h1
        refine .inr ⟨_, _, _, rfl, fun p' ag' k' => ?_⟩
        show evK T L x (panV T D H nx) = _
        rw [evK_eq, hv]
        exact h1'
      · cases h1
    | rcv => cases h
    | ins z bytes s i v =>
      have h' : actT (.ins z bytes s i v) A.P T L H nx (uk fun x => contO A.P p ag k T L D x.1 x.2.1 x.2.2) = some r := h
      obtain ⟨x, h1, h2⟩ := actT_det _ _ r h'
      exact .inl ⟨x.1, D, x.2.1, x.2.2, fun p' ag' k' => h2 fun x => contO A.P p' ag' k' T L D x.1 x.2.1 x.2.2, h1, fun _ => rfl⟩
    | _ => exact absurd rfl hp
end Go.Eng
/- The engine: one step of a region, with its value put away. -/
namespace Go.Eng
variable {P : Program} {ins kept : List Nat} {n : Nat} {A : AProg} {rn : Run} {σ : Sig} {T : Tr Value} {L : List Value} {D : List Dfd} {H : Heap} {nx : Nat} {env : Env} {ops : List Oper}

/-- the guard, as the slots have it -/
def wantS (ops : List Oper) (σ : Sig) (g : Option (Nat × Bool)) : Bool := match g with
  | none => true
  | some (j, w) => match (ops[j]?).bind (·.dst) with
    | some t => wantB w (σ t)
    | none => false

theorem guard_S {c : Option (Nat × Bool)} {g : Option (Nat × Bool)} (h : guardC ops env c = some g) (he : EnvS kept σ env T L) : wanted L g = wantS ops σ c := by
  cases c with
  | none => cases h; rfl
  | some p =>
    obtain ⟨j, want⟩ := p
    simp only [guardC] at h
    cases hj : ops[j]? with
    | none => rw [hj] at h; cases h
    | some q =>
      rw [hj] at h
      simp only at h
      cases hd : q.dst with
      | none => rw [hd] at h; cases h
      | some t =>
        rw [hd] at h
        simp only at h
        cases hf : find env t with
        | none => rw [hf] at h; cases h
        | some x =>
          rw [hf] at h
          simp only [Option.map_eq_some_iff] at h
          obtain ⟨d, hx, rfl⟩ := h
          have hx' : x = .loc d := by cases x <;> simp [locOf] at hx; rw [hx]
          subst hx'
          have hv := he.ofFind hf
          have hs : wantS ops σ (some (j, want)) = wantB want (σ t) := by simp only [wantS, hj, Option.bind_some, hd]
          rw [hs, ← hv]
          show wantO want (nthO L d) = wantB want ((L[d]?).getD undef)
          rw [nthO_eq]
          cases L[d]? <;> rfl

def kv0 : KV := fun v => some (.normal, ⟨.n .e (some v) .e, [], .e, 0⟩)

/-- an operation that looks at the heap at most: over its operands' values -/
theorem look_S {a : AOp Operand} {b : AOp Od} {u : Value} (h : a.trav (cv kept n env) = some b) (he : EnvS kept σ env T L) (hl : ∀ k, lookT b P T L H k = k u) :
    ∀ T' L' k, lookT (a.map (Av (evS σ))) P T' L' H k = k u := by
  intro T' L' k
  have h1 := lookT_to T' L' (hl kv0)
  rw [trav_S h he] at h1
  obtain ⟨x, g1, g2⟩ := lookT_det (P := P) (T := T') (L := L') (H := H) _ _ _ h1
  have : x = u := by
    have e : kv0 x = kv0 u := g1
    unfold kv0 at e
    simp only [Option.some.injEq, Prod.mk.injEq, St.mk.injEq, Tr.n.injEq, true_and, and_true] at e
    exact e
  subst this
  exact g2 k

theorem act_S {a : AOp Operand} {b : AOp Od} {v : Value} {H' : Heap} {nx' : Nat} (h : a.trav (cv kept n env) = some b) (he : EnvS kept σ env T L) (hl : ∀ k, actT b P T L H nx k = k v H' nx') :
    ∀ T' L' k, actT (a.map (Av (evS σ))) P T' L' H nx k = k v H' nx' := by
  intro T' L' k
  have h1 := actT_to T' L' (hl fun v H nx => some (.normal, ⟨.n .e (some v) .e, [], H, nx⟩))
  rw [trav_S h he] at h1
  obtain ⟨x, g1, g2⟩ := actT_det (P := P) (T := T') (L := L') (H := H) (nx := nx) _ (fun x => some (.normal, ⟨.n .e (some x.1) .e, [], x.2.1, x.2.2⟩)) _ h1
  have : x = (v, H', nx') := by
    obtain ⟨x1, x2, x3⟩ := x
    simp only [Option.some.injEq, Prod.mk.injEq, St.mk.injEq, Tr.n.injEq, true_and, and_true] at g1
    obtain ⟨rfl, rfl, rfl⟩ := g1
    rfl
  subst this
  exact g2 fun x => k x.1 x.2.1 x.2.2

/-- a load, looked at again: it reads what it read -/
def AgainJ (P : Program) (ops : List Oper) (bef : List Nat) (done : Nat) (σ : Sig) (H : Heap) (j : Nat) : Prop :=
  ∃ q a t, ops[j]? = some q ∧ compileOp P [] q = some a ∧ q.dst = some t ∧ readsStill ops bef done j q = true ∧
    (wantS ops σ q.guard = true → ∃ u, (∀ T L k, lookT (a.map (Av (evS σ))) P T L H k = k u) ∧ veq (σ t) u = true)

theorem again1_some {X : R0} {r : Ex × St} {a : Again} (h : again1 P T L H a X = some r) : X = some r ∧ (wanted L a.guard = true → ∃ u u', (∀ k, lookT a.op P T L H k = k u) ∧ L[a.d]? = some u' ∧ veq u' u = true) := by
  have h' : cond (wanted L a.guard) (lookT a.op P T L H fun v => nthK L a.d fun u => cond (veq u v) X none) X = some r := h
  cases hw : wanted L a.guard with
  | false =>
    rw [hw] at h'
    exact ⟨h', fun h => by cases h⟩
  | true =>
    rw [hw] at h'
    obtain ⟨v, q1, q2⟩ := lookT_det (P := P) (T := T) (L := L) (H := H) _ _ _ h'
    rw [nthK_eq] at q1
    obtain ⟨u, hu, q3⟩ := bd_eq q1
    have q4 : cond (veq u v) X none = some r := q3
    cases hv : veq u v with
    | false => rw [hv] at q4; cases q4
    | true => rw [hv] at q4; exact ⟨q4, fun _ => ⟨v, u, q2, hu, hv⟩⟩

theorem agains_S {bef : List Nat} {done bh : Nat} {X : R0} {r : Ex × St} (he : EnvS kept σ env T L) : ∀ {l : List Nat} {as : List Again}, againsC P kept n ops bef done env bh l = some as → againK P T L H as X = some r →
    X = some r ∧ ∀ j ∈ l, Nat.testBit bh j = false → AgainJ P ops bef done σ H j := by
  intro l
  induction l with
  | nil =>
    intro as h hk
    cases h
    exact ⟨hk, fun j hj => by simp at hj⟩
  | cons j l ih =>
    intro as h hk
    unfold againsC at h
    cases h0 : againsC P kept n ops bef done env bh l with
    | none => rw [h0] at h; cases h
    | some bs =>
      rw [h0] at h
      simp only at h
      cases hb : Nat.testBit bh j with
      | true =>
        rw [hb] at h
        simp only [cond_true, Option.some.injEq] at h
        subst h
        obtain ⟨g1, g2⟩ := ih h0 hk
        refine ⟨g1, fun i hi hib => ?_⟩
        rcases List.mem_cons.1 hi with rfl | hi
        · rw [hb] at hib; cases hib
        · exact g2 i hi hib
      | false =>
        rw [hb] at h
        simp only [cond_false] at h
        cases hq : ops[j]? with
        | none => rw [hq] at h; cases h
        | some q =>
          rw [hq] at h
          simp only at h
          cases hs : readsStill ops bef done j q with
          | false => rw [hs] at h; cases h
          | true =>
            rw [hs] at h
            simp only [Bool.not_true, cond_false] at h
            split at h
            · rename_i a g d ha hg hd
              simp only [Option.some.injEq] at h
              subst h
              obtain ⟨g1, g2⟩ := again1_some hk
              obtain ⟨k1, k2⟩ := ih h0 g1
              refine ⟨k1, fun i hi hib => ?_⟩
              rcases List.mem_cons.1 hi with rfl | hi
              · obtain ⟨a0, ha0, ht⟩ := Option.bind_eq_some_iff.1 ha
                obtain ⟨od, hod, hloc⟩ := Option.bind_eq_some_iff.1 hd
                obtain ⟨t, hdst, hf⟩ := Option.bind_eq_some_iff.1 hod
                have hx' : od = .loc d := by cases od <;> simp [locOf] at hloc; rw [hloc]
                subst hx'
                refine ⟨q, a0, t, hq, ha0, hdst, hs, fun hw => ?_⟩
                obtain ⟨u, u', p1, p2, p3⟩ := g2 ((guard_S hg he).trans hw)
                refine ⟨u, look_S ht he p1, ?_⟩
                have := he.ofFind hf
                rw [← this]
                show veq ((L[d]?).getD undef) u = true
                have p2' : L[d]? = some u' := p2
                rw [p2']
                exact p3
              · exact k2 i hi hib
            · cases h
end Go.Eng
/- The engine: one operation of a region, laid and run. -/
namespace Go.Eng
variable {P : Program} {ins kept : List Nat} {n : Nat} {A : AProg} {rn : Run} {σ : Sig} {T : Tr Value} {L : List Value} {D : List Dfd} {H : Heap} {nx : Nat} {env : Env} {ops : List Oper}

/-- what one operation comes to: another name for a value, passed over, or done -/
inductive Step (A : AProg) (rn : Run) (o : Oper) (b : AOp Od) (g : Option (Nat × Bool)) (T : Tr Value) (L : List Value) (D : List Dfd) (H : Heap) (nx : Nat) : Value → List Dfd → Heap → Nat → Prop
  | alias (od : Od) (hb : b = .mov od) (hm : isMove o.op = true) (hg : g = none) : Step A rn o b g T L D H nx ((valO T L od).getD undef) D H nx
  | over (hw : wanted L g = false) : Step A rn o b g T L D H nx undef D H nx
  | did (hw : wanted L g = true) (v : Value) (D' : List Dfd) (H' : Heap) (nx' : Nat) (h : ∀ p ag k, opT b A rn p ag k b T L D H nx = contO A.P p ag k T L D' v H' nx') (hd : b.plain = true → D' = D) :
      Step A rn o b g T L D H nx v D' H' nx'

theorem keepOf_none {d : Option Nat} {t : Nat} (h : keepOf kept d = none) (ht : d = some t) : isIn kept t = false := by
  subst ht
  cases hk : isIn kept t with
  | false => rfl
  | true => simp [keepOf, hk] at h

theorem keepOf_some {d : Option Nat} {p : List Bool} (h : keepOf kept d = some p) : ∃ t, d = some t ∧ p = slotPath t ∧ isIn kept t = true := by
  cases d with
  | none => simp [keepOf] at h
  | some t =>
    cases hk : isIn kept t with
    | false => simp [keepOf, hk] at h
    | true =>
      simp [keepOf, hk] at h
      exact ⟨t, rfl, h.symm, hk⟩

def putT (T : Tr Value) (p : Option (List Bool)) (v : Value) : Tr Value := match p with
  | none => T
  | some p => insP p T (some v)
theorem keepK_put {p : Option (List Bool)} {v : Value} {k : Tr Value → R0} : keepK T p v k = k (putT T p v) := by
  rw [keepK_eq]
  cases p <;> rfl

theorem emit_run {bef : List Nat} {bm : Nat} {o : Oper} {g : Option (Nat × Bool)} {a : AOp Od} {s s1 : Laid} (h : emit P kept n ops bef bm o g a s = some s1) :
    ∃ as, s1.out = (⟨keepOf kept o.dst, g, a⟩, as) :: s.out ∧ SameBut s s1 ∧ (∀ t od, (t, od) ∈ s1.env → some t = o.dst ∨ ∃ od', (t, od') ∈ s.env) ∧ (isHeavy (kdOf a) = false → as = []) ∧
      ∀ later T L D H nx r σ, A.P = P → runOps A rn ((⟨keepOf kept o.dst, g, a⟩, as) :: later) T L D H nx = some r → EnvS kept σ s.env T L →
        (∃ v D' H' nx' T', Step A rn o a g T L D H nx v D' H' nx' ∧ runOps A rn later T' (v :: L) D' H' nx' = some r ∧ EnvS kept (σ.set o.dst v) s1.env T' (v :: L) ∧
          (isHeavy (kdOf a) = true → ∀ j ∈ s.loads, Nat.testBit bm j = false → AgainJ P ops bef s.done (σ.set o.dst v) H' j)) ∨
        (wanted L g = true ∧ ∃ ch H' nx', r = (.panic ch, ⟨T, D, H', nx'⟩) ∧ ∀ p ag k, opT a A rn p ag k a T L D H nx = some r) := by
  unfold emit at h
  generalize henv1 : envAfter s.env o.dst = env1 at h
  split at h
  · cases h
  · rename_i as has
    have hdom : ∀ t od, (t, od) ∈ env1 → some t = o.dst ∨ ∃ od', (t, od') ∈ s.env := by
      intro t od ht
      subst henv1
      cases hd : o.dst with
      | none =>
        rw [hd] at ht
        obtain ⟨x, hx, _⟩ := mem_shift.1 ht
        exact .inr ⟨x, hx⟩
      | some d =>
        rw [hd] at ht
        rcases List.mem_cons.1 ht with e | ht
        · cases e; exact .inl rfl
        · obtain ⟨x, hx, _⟩ := mem_shift.1 (mem_without.1 ht).1
          exact .inr ⟨x, hx⟩
    -- the value put away
    have hput : ∀ (T : Tr Value) (L : List Value) (σ : Sig) (v : Value), EnvS kept σ s.env T L → (∀ p, keepOf kept o.dst = some p → (shiftAll s.env).any (fun e => isVar p e.2) = false) →
        EnvS kept (σ.set o.dst v) env1 (putT T (keepOf kept o.dst) v) (v :: L) := by
      intro T L σ v he hany
      subst henv1
      cases hd : o.dst with
      | none =>
        have : keepOf kept (none : Option Nat) = none := rfl
        rw [this]
        exact he.shift v
      | some d =>
        rw [hd] at hany
        cases hk : keepOf kept (some d) with
        | none => exact he.put (keep := none) (.inl ⟨rfl, rfl, keepOf_none hk rfl⟩)
        | some p =>
          obtain ⟨t, ht, hp, _⟩ := keepOf_some hk
          cases ht
          exact he.put (keep := some p) (.inr ⟨p, rfl, hp, rfl, hany p hk⟩)
    have hfin : s1.env = env1 ∧ s1.out = (⟨keepOf kept o.dst, g, a⟩, as) :: s.out ∧ SameBut s s1 ∧ (∀ p, keepOf kept o.dst = some p → (shiftAll s.env).any (fun e => isVar p e.2) = false) := by
      split at h
      · rename_i hk
        cases h
        rw [hk]
        exact ⟨rfl, rfl, ⟨rfl, rfl, rfl, rfl⟩, fun p hp => by cases hp⟩
      · rename_i p hk
        cases hany : (shiftAll s.env).any (fun e => isVar p e.2) with
        | true => rw [hany] at h; cases h
        | false =>
          rw [hany] at h
          cases h
          rw [hk]
          exact ⟨rfl, rfl, ⟨rfl, rfl, rfl, rfl⟩, fun q hq => by cases hq; exact hany⟩
    obtain ⟨e1, e2, e3, e4⟩ := hfin
    refine ⟨as, e2, e3, fun t od ht => hdom t od (by rw [← e1]; exact ht), fun hh => by rw [hh] at has; cases has; rfl, fun later T L D H nx r σ hA hr he => ?_⟩
    -- what comes behind
    have hcont : ∀ v D' H' nx', contO A.P (keepOf kept o.dst) as (runOps A rn later) T L D' v H' nx' = some r →
        ∃ T', runOps A rn later T' (v :: L) D' H' nx' = some r ∧ EnvS kept (σ.set o.dst v) s1.env T' (v :: L) ∧ (isHeavy (kdOf a) = true → ∀ j ∈ s.loads, Nat.testBit bm j = false → AgainJ P ops bef s.done (σ.set o.dst v) H' j) := by
      intro v D' H' nx' hc
      unfold contO at hc
      rw [keepK_put] at hc
      have hE := hput T L σ v he e4
      rw [← e1] at hE
      generalize putT T (keepOf kept o.dst) v = T' at hE hc
      refine ⟨T', ?_⟩
      cases hh : isHeavy (kdOf a) with
      | false =>
        rw [hh] at has
        cases has
        exact ⟨hc, hE, fun h => by cases h⟩
      | true =>
        rw [hh] at has
        rw [hA] at hc
        rw [e1] at hE
        obtain ⟨q1, q2⟩ := agains_S hE has hc
        exact ⟨q1, by rw [e1]; exact hE, fun _ => q2⟩
    have hr' : cond (wanted L g) (opT a A rn (keepOf kept o.dst) as (runOps A rn later) a T L D H nx) (contO A.P (keepOf kept o.dst) as (runOps A rn later) T L D undef H nx) = some r := hr
    cases hw : wanted L g with
    | false =>
      rw [hw] at hr'
      obtain ⟨T', q1, q2, q3⟩ := hcont _ _ _ _ hr'
      exact .inl ⟨undef, D, H, nx, T', .over hw, q1, q2, q3⟩
    | true =>
      rw [hw] at hr'
      rcases opT_det hr' with ⟨v, D', H', nx', g1, g2, g3⟩ | ⟨ch, H', nx', g1, g2⟩
      · obtain ⟨T', q1, q2, q3⟩ := hcont _ _ _ _ g2
        exact .inl ⟨v, D', H', nx', T', .did hw v D' H' nx' g1 g3, q1, q2, q3⟩
      · exact .inr ⟨rfl, ch, H', nx', g1, g2⟩

theorem layOp_run {rest : List Oper} {bef : List Nat} {bm : Nat} {solo : Bool} {o : Oper} {s0 s1 : Laid} (h : layOp P ins kept n ops rest bef bm solo o s0 = some s1) :
    ∃ new env a b g, compileOp P ins o = some a ∧ a.trav (cv kept n env) = some b ∧ guardC ops env o.guard = some g ∧ s1.out = new.reverse ++ s0.out ∧ SameBut s0 s1 ∧
      (∀ t od, (t, od) ∈ env → ∃ od', (t, od') ∈ s0.env) ∧ (∀ t od, (t, od) ∈ s1.env → some t = o.dst ∨ ∃ od', (t, od') ∈ s0.env) ∧
      ∀ later T L D H nx r σ, A.P = P → runOps A rn (new ++ later) T L D H nx = some r → EnvS kept σ s0.env T L → ∃ L1, EnvS kept σ env T L1 ∧
        ((∃ v D' H' nx' T' L', Step A rn o b g T L1 D H nx v D' H' nx' ∧ runOps A rn later T' L' D' H' nx' = some r ∧ EnvS kept (σ.set o.dst v) s1.env T' L' ∧
          (isHeavy (kdOf b) = true → ∀ j ∈ s0.loads, Nat.testBit bm j = false → AgainJ P ops bef s0.done (σ.set o.dst v) H' j)) ∨
        (wanted L1 g = true ∧ ∃ ch H' nx', r = (.panic ch, ⟨T, D, H', nx'⟩) ∧ ∀ p ag k, opT b A rn p ag k b T L1 D H nx = some r)) := by
  unfold layOp at h
  simp only at h
  -- the slots that are moved into the list
  have hs : ∃ new1 s, spilled (o :: rest) s0 (keepOf kept o.dst) = s ∧ s.out = new1.reverse ++ s0.out ∧ SameBut s0 s ∧ (∀ t od, (t, od) ∈ s.env → ∃ od', (t, od') ∈ s0.env) ∧
      ∀ later T L D H nx r σ, runOps A rn (new1 ++ later) T L D H nx = some r → EnvS kept σ s0.env T L → ∃ L', runOps A rn later T L' D H nx = some r ∧ EnvS kept σ s.env T L' := by
    cases hk : keepOf kept o.dst with
    | none => exact ⟨[], s0, rfl, rfl, ⟨rfl, rfl, rfl, rfl⟩, fun t od h => ⟨od, h⟩, fun later T L D H nx r σ h he => ⟨L, h, he⟩⟩
    | some p =>
      obtain ⟨new, h1, h2, h3, h4⟩ := spill_run (A := A) (rn := rn) (kept := kept) (p := p) (rest := o :: rest) s0.env s0
      refine ⟨new, _, rfl, h1, h2, fun t od h => (h3 t od h).elim id id, fun later T L D H nx r σ h he => h4 later T L D H nx r σ h he fun t ht => he.env t _ ht⟩
  obtain ⟨new1, s, hse, hout, hsame, hdom, hrun⟩ := hs
  rw [hse] at h
  split at h
  · rename_i b g hb hg
    obtain ⟨a, ha, ht⟩ := Option.bind_eq_some_iff.1 hb
    -- the operation is put down
    have hemit : emit P kept n ops bef bm o g b s = some s1 → ∃ new env a b g, compileOp P ins o = some a ∧ a.trav (cv kept n env) = some b ∧ guardC ops env o.guard = some g ∧ s1.out = new.reverse ++ s0.out ∧ SameBut s0 s1 ∧
      (∀ t od, (t, od) ∈ env → ∃ od', (t, od') ∈ s0.env) ∧ (∀ t od, (t, od) ∈ s1.env → some t = o.dst ∨ ∃ od', (t, od') ∈ s0.env) ∧
      ∀ later T L D H nx r σ, A.P = P → runOps A rn (new ++ later) T L D H nx = some r → EnvS kept σ s0.env T L → ∃ L1, EnvS kept σ env T L1 ∧
        ((∃ v D' H' nx' T' L', Step A rn o b g T L1 D H nx v D' H' nx' ∧ runOps A rn later T' L' D' H' nx' = some r ∧ EnvS kept (σ.set o.dst v) s1.env T' L' ∧
          (isHeavy (kdOf b) = true → ∀ j ∈ s0.loads, Nat.testBit bm j = false → AgainJ P ops bef s0.done (σ.set o.dst v) H' j)) ∨
        (wanted L1 g = true ∧ ∃ ch H' nx', r = (.panic ch, ⟨T, D, H', nx'⟩) ∧ ∀ p ag k, opT b A rn p ag k b T L1 D H nx = some r)) := by
      intro he
      obtain ⟨as, e1, e2, e3, _, e5⟩ := emit_run (A := A) (rn := rn) he
      refine ⟨new1 ++ [(⟨keepOf kept o.dst, g, b⟩, as)], s.env, a, b, g, ha, ht, hg, ?_, ⟨e2.loads.trans hsame.loads, e2.heavy.trans hsame.heavy, e2.make.trans hsame.make, e2.done.trans hsame.done⟩, hdom, fun t od h => ?_, fun later T L D H nx r σ hA hr hE => ?_⟩
      · rw [e1, hout]
        simp
      · rcases e3 t od h with h | ⟨od', h⟩
        · exact .inl h
        · exact .inr (hdom t od' h)
      · rw [List.append_assoc] at hr
        obtain ⟨L1, hr1, hE1⟩ := hrun _ T L D H nx r σ hr hE
        refine ⟨L1, hE1, ?_⟩
        rcases e5 later T L1 D H nx r σ hA hr1 hE1 with ⟨v, D', H', nx', T', q1, q2, q3, q4⟩ | q
        · refine .inl ⟨v, D', H', nx', T', v :: L1, q1, q2, q3, ?_⟩
          rw [← hsame.loads, ← hsame.done]
          exact q4
        · exact .inr q
    split at h
    · rename_i x t hdst
      cases hc : (keepOf kept (some t)).isNone && isMove o.op && !solo with
      | false => rw [hc] at h; exact hemit h
      | true =>
        rw [hc] at h
        simp only [cond_true, Option.some.injEq] at h
        simp only [Bool.and_eq_true, Option.isNone_iff_eq_none] at hc
        obtain ⟨⟨hk, hm⟩, _⟩ := hc
        subst h
        refine ⟨new1, s.env, a, .mov x, none, ha, ht, hg, hout, ⟨hsame.loads, hsame.heavy, hsame.make, hsame.done⟩, hdom, fun u od hu => ?_, fun later T L D H nx r σ hA hr hE => ?_⟩
        · rcases List.mem_cons.1 hu with e | hu
          · cases e; exact .inl hdst.symm
          · exact .inr (hdom u od (mem_without.1 hu).1)
        · obtain ⟨L1, hr1, hE1⟩ := hrun _ T L D H nx r σ hr hE
          refine ⟨L1, hE1, .inl ⟨(valO T L1 x).getD undef, D, H, nx, T, L1, .alias x rfl hm rfl, hr1, ?_, fun hh => by cases hh⟩⟩
          rw [hdst]
          refine ⟨fun u od hu => ?_, fun u hu => ?_⟩
          · rcases List.mem_cons.1 hu with e | hu
            · cases e
              show _ = if t = t then _ else _
              rw [if_pos rfl]
            · obtain ⟨hu, hne⟩ := mem_without.1 hu
              have hs : Sig.set σ (some t) ((valO T L1 x).getD undef) u = σ u := if_neg hne
              rw [hs]
              exact hE1.env u od hu
          · have hne : u ≠ t := by intro e; subst e; rw [keepOf_none hk rfl] at hu; cases hu
            have hs : Sig.set σ (some t) ((valO T L1 x).getD undef) u = σ u := if_neg hne
            rw [hs]
            exact hE1.kept u hu
    · exact hemit h
  · cases h
end Go.Eng
/- The engine: regions whose order is given, as a whole. -/
namespace Go.Eng
variable {P : Program} {ins kept : List Nat} {n : Nat} {A : AProg} {rn : Run} {σ : Sig} {T : Tr Value} {L : List Value} {D : List Dfd} {H : Heap} {nx : Nat} {env : Env} {ops : List Oper} {ρ : Rho}

/-- the slots hold what the engine says -/
structure SigR (ρ : Rho) (kept : List Nat) (n : Nat) (env : Env) (σ : Sig) (tm : Array Value) : Prop where
  size : n ≤ tm.size
  env : ∀ t od, (t, od) ∈ env → VR ρ (σ t) (tm.getD t undef)
  kept : ∀ t, isIn kept t = true → VR ρ (σ t) (tm.getD t undef)

theorem EnvR.of {a : Act} (he : EnvS kept σ env T L) (hs : SigR ρ kept n env σ a.tmps) : EnvR ρ kept n env T L a :=
  ⟨hs.size, fun t od ht => by rw [he.ofFind ht]; exact hs.env t od (find_mem ht), fun t ht => by rw [he.kept t ht]; exact hs.kept t ht⟩

theorem SigR.mono {ρ' : Rho} {tm : Array Value} (e : Ext ρ ρ') (h : SigR ρ kept n env σ tm) : SigR ρ' kept n env σ tm :=
  ⟨h.size, fun t od ht => (h.env t od ht).mono e, fun t ht => (h.kept t ht).mono e⟩

theorem SigR.less {env' : Env} {tm : Array Value} (h : SigR ρ kept n env σ tm) (hd : ∀ t od, (t, od) ∈ env' → ∃ od', (t, od') ∈ env) : SigR ρ kept n env' σ tm :=
  ⟨h.size, fun t od ht => let ⟨od', g⟩ := hd t od ht; h.env t od' g, h.kept⟩

theorem put_getD {a : Act} {d : Nat} {u : Value} (hd : d < a.tmps.size) (t : Nat) : (a.put (some d) u).tmps.getD t undef = if t = d then u else a.tmps.getD t undef := by
  show (a.tmps.setIfInBounds d u).getD t undef = _
  simp only [Array.getD_eq_getD_getElem?, Array.getElem?_setIfInBounds]
  by_cases ht : d = t
  · subst ht; simp [hd]
  · rw [if_neg ht, if_neg (fun e => ht e.symm)]

theorem SigR.put {env' : Env} {a : Act} {dst : Option Nat} {v u : Value} (h : SigR ρ kept n env σ a.tmps) (hv : VR ρ v u) (hd : ∀ d, dst = some d → d < n) (hdom : ∀ t od, (t, od) ∈ env' → some t = dst ∨ ∃ od', (t, od') ∈ env) :
    SigR ρ kept n env' (σ.set dst v) (a.put dst u).tmps := by
  cases dst with
  | none => exact h.less fun t od ht => (hdom t od ht).elim (fun e => by cases e) id
  | some d =>
    have hds : d < a.tmps.size := Nat.lt_of_lt_of_le (hd d rfl) h.size
    have key : ∀ t, (t ≠ d → VR ρ (σ t) (a.tmps.getD t undef)) → VR ρ (Sig.set σ (some d) v t) ((a.put (some d) u).tmps.getD t undef) := by
      intro t ht
      rw [put_getD hds]
      show VR ρ (if t = d then v else σ t) _
      by_cases e : t = d
      · rw [if_pos e, if_pos e]; exact hv
      · rw [if_neg e, if_neg e]; exact ht e
    refine ⟨by show n ≤ (a.tmps.setIfInBounds d u).size; simpa using h.size, fun t od ht => key t fun hne => ?_, fun t ht => key t fun _ => h.kept t ht⟩
    rcases hdom t od ht with e | ⟨od', g⟩
    · cases e; exact absurd rfl hne
    · exact h.env t od' g

/-- writes down what an operation came to -/
noncomputable def krec : RL := fun _ L D H nx => some (.normal, ⟨.n .e (headO L) .e, D, H, nx⟩)
theorem krec_inj {v v' : Value} {D' D'' : List Dfd} {H' H'' : Heap} {nx' nx'' : Nat} (h : contO P none [] krec T L D' v H' nx' = contO P none [] krec T L D'' v' H'' nx'') : v = v' ∧ D' = D'' ∧ H' = H'' ∧ nx' = nx'' := by
  rw [contO_nil, contO_nil] at h
  have h' : some (Ex.normal, (⟨.n .e (some v) .e, D', H', nx'⟩ : St)) = some (Ex.normal, ⟨.n .e (some v') .e, D'', H'', nx''⟩) := h
  simp only [Option.some.injEq, Prod.mk.injEq, St.mk.injEq, Tr.n.injEq, true_and, and_true] at h'
  exact h'
theorem krec_no {v : Value} {ch : List PanicEntry} {st : St} (h : contO P none [] krec T L D v H nx = some (.panic ch, st)) : False := by
  rw [contO_nil] at h
  have h' : some (Ex.normal, (⟨.n .e (some v) .e, D, H, nx⟩ : St)) = some (Ex.panic ch, st) := h
  simp at h'

/-- a move, run by the machine -/
theorem move_run {o : Oper} {a : AOp Operand} {x : Operand} {c : Act} {w : World} (hm : isMove o.op = true) (hc : compileOp P ins o = some a) (ha : a = .mov x) : (execOp c.eval o).run P w = .ok (.value (c.eval x)) w := by
  subst ha
  cases ho : o.op <;> simp only [ho, isMove] at hm <;> first | cases hm | skip
  all_goals
    simp only [compileOp, ho, Option.some.injEq, AOp.mov.injEq] at hc
    subst hc
    simp only [execOp, ho, Sem.run_pure]

theorem trav_mov {α β : Type} {c : α → Option β} {a : AOp α} {y : β} (h : a.trav c = some (.mov y)) : ∃ x, a = .mov x ∧ c x = some y := by
  cases a with
  | mov x =>
    simp only [AOp.trav] at h
    split at h
    · rename_i z hz
      cases h
      exact ⟨x, rfl, hz⟩
    · cases h
  | _ =>
    exfalso
    simp only [AOp.trav] at h
    repeat' split at h
    all_goals cases h

/-- one step, taken by the machine -/
theorem step_run {o : Oper} {a : AOp Operand} {b : AOp Od} {g : Option (Nat × Bool)} {c : Act} {w : World} {v : Value} {D' : List Dfd} {H' : Heap} {nx' : Nat} {next : Act → World → Prop} {Q : Exit → Act → World → Prop}
    (hA : A.P = P) (hcall : CallOk P rn) (hins : InsOk P ins) (hc : compileOp P ins o = some a) (ht : a.trav (cv kept n env) = some b) (hg : guardC ops env o.guard = some g) (he : EnvR ρ kept n env T L c) (hD : DfRs ρ D c.defers) (hH : HR ρ H nx w.heap)
    (hs : Step A rn o b g T L D H nx v D' H' nx')
    (hn : ∀ (ρ' : Rho) (u : Value) (w' : World) (c' : Act), VR ρ' v u → Went ρ H nx w ρ' H' nx' w' → DfRs ρ' D' c'.defers → c'.tmps = c.tmps → next (c'.put o.dst u) w') :
    (if Region.wanted o (yielded ops.toArray c.tmps) then o.wp P c w next Q ∨ (o.asks P c w ∧ LetsOut Q) else next (c.put o.dst undef) w) := by
  rw [guard_same hg he]
  cases hs with
  | alias od hb hm hg0 =>
    rw [hb] at ht
    obtain ⟨x, hax, hx⟩ := trav_mov ht
    have hw : wanted L g = true := by rw [hg0]; rfl
    rw [if_pos hw]
    refine .inl ?_
    unfold Oper.wp
    rw [move_run hm hc hax]
    exact hn ρ _ w c (cv_sound he hx) (.refl hH) hD rfl
  | over hw =>
    rw [hw, if_neg (by simp)]
    exact hn ρ _ w c VR.undef (.refl hH) hD rfl
  | did hw _ _ _ _ h hd =>
    rw [hw, if_pos rfl]
    refine .inl ?_
    unfold Oper.wp
    obtain ⟨r0, hr0⟩ : ∃ r0, contO A.P none [] krec T L D' v H' nx' = some r0 := ⟨_, contO_nil.trans rfl⟩
    refine op_run (p := none) (ag := []) (k := krec) hA hcall hins hc ht he hD hH ((h none [] krec).trans hr0) ?_ ?_
    · intro v2 H2 nx2 D2 ρ' u w' c' h1 h2 h3 h4 h5
      obtain ⟨rfl, rfl, rfl, rfl⟩ := krec_inj (h1.trans hr0.symm)
      exact hn ρ' u w' c' h2 h3 h4 h5
    · intro ch ch' ρ' H2 nx2 w' h1
      subst h1
      exact (krec_no hr0).elim

theorem bif_both {α : Type} {c : Bool} {x : Option α} {a : α} (h : (bif c then x else none) = some a) : c = true ∧ x = some a := by
  cases c
  · cases h
  · exact ⟨rfl, h⟩

theorem seq_region {solo : List Nat} (hA : A.P = P) (hcall : CallOk P rn) (hins : InsOk P ins) : ∀ (is : List Nat) (s s' : Laid), layAll P ins kept n false ops [] solo is s = some s' → ∃ new, s'.out = new.reverse ++ s.out ∧
    ∀ T L D H nx r σ, runOps A rn new T L D H nx = some r → EnvS kept σ s.env T L → ∀ ρ a w, HR ρ H nx w.heap → SigR ρ kept n s.env σ a.tmps → DfRs ρ D a.defers →
      ∀ Q : Exit → Act → World → Prop, (∀ e a' w', OutR ρ H nx w kept n r e a' w' → Q e a' w') → wpOps P ops.toArray Q is a w := by
  intro is
  induction is with
  | nil =>
    intro s s' h
    cases h
    refine ⟨[], rfl, fun T L D H nx r σ hr he ρ a w hH hs hD Q hQ => ?_⟩
    have hr' : some (Ex.normal, (⟨T, D, H, nx⟩ : St)) = some r := hr
    cases hr'
    exact hQ _ _ _ ⟨ρ, .refl hH, ⟨.of ⟨fun t od h => by simp at h, he.kept⟩ ⟨hs.size, fun t od h => by simp at h, hs.kept⟩, hD⟩, trivial⟩
  | cons i is ih =>
    intro s s' h
    unfold layAll at h
    cases ho : ops[i]? with
    | none => rw [ho] at h; cases h
    | some o =>
      rw [ho] at h
      simp only [cond_false] at h
      split at h
      · cases h
      · rename_i s1 hs1
        split at h
        · cases h
        · rename_i k hk
          obtain ⟨hdst, h⟩ := bif_both h
          have hlt : ∀ d, o.dst = some d → d < n := by
            intro d hd
            rw [hd] at hdst
            have hdst' : Nat.blt d n = true := hdst
            rwa [Nat.blt_eq] at hdst'
          obtain ⟨new1, env, a, b, g, hc, ht, hg, hout, hsame, hdom, hdom1, hrun⟩ := layOp_run (A := A) (rn := rn) hs1
          obtain ⟨new2, hout2, hrest⟩ := ih _ _ (bif_both h).2
          refine ⟨new1 ++ new2, ?_, fun T L D H nx r σ hr he ρ c w hH hs hD Q hQ => ?_⟩
          · rw [hout2]
            show new2.reverse ++ s1.out = _
            rw [hout]
            simp
          · obtain ⟨L1, hE, hcase⟩ := hrun new2 T L D H nx r σ hA hr he
            have hR : EnvR ρ kept n env T L1 c := .of hE (hs.less hdom)
            rw [wpOps_cons]
            unfold wpOp
            have hoi : ops.toArray[i]? = some o := by simpa using ho
            rw [hoi]
            rcases hcase with ⟨v, D', H', nx', T', L', hst, hr2, hE2, _⟩ | ⟨hw, ch, H', nx', hrp, hall⟩
            · refine step_run hA hcall hins hc ht hg hR hD hH hst fun ρ' u w' c' hv hwent hD' htm => ?_
              refine hrest T' L' D' H' nx' r _ hr2 hE2 ρ' (c'.put o.dst u) w' hwent.hr ?_ ?_ Q fun e a' w'' ho => hQ e a' w'' (.trans hwent ho)
              · refine SigR.put (env := s.env) (h := ?_) hv hlt hdom1
                rw [htm]
                exact hs.mono hwent.stp.ext
              · have : (c'.put o.dst u).defers = c'.defers := by cases o.dst <;> rfl
                rw [this]
                exact hD'
            · show (if Region.wanted o (yielded ops.toArray c.tmps) then _ else _)
              rw [guard_same hg hR, if_pos hw]
              refine .inl ?_
              unfold Oper.wp
              refine op_run (p := none) (ag := []) (k := krec) hA hcall hins hc ht hR hD hH (hall none [] krec) ?_ ?_
              · intro v2 H2 nx2 D2 ρ' u w' c' h1
                subst hrp
                exact (krec_no h1).elim
              · intro ch2 ch' ρ' H2 nx2 w' h1 h2 h3
                rw [hrp] at h1
                cases h1
                exact hQ _ _ _ ⟨ρ', by rw [hrp]; exact h3, by
                  rw [hrp]
                  exact ⟨.of ⟨fun t od h => by simp at h, he.kept⟩ ⟨hs.size, fun t od h => by simp at h, fun t h => (hs.kept t h).mono h3.stp.ext⟩, hD.mono h3.stp.ext⟩, by rw [hrp]; exact h2⟩
end Go.Eng
/- The engine: what it wrote down of a region whose order is drawn. -/
namespace Go.Eng
variable {P : Program} {ins kept : List Nat} {n : Nat} {A : AProg} {rn : Run} {ops : List Oper} {bef : List Nat}

theorem reg_ok {id : Nat} {ops : Array Oper} {l : List (AO × List Again)} (hA : A.P = P) (hcall : CallOk P rn) (hins : InsOk P ins) (h : compileOps P ins kept n false ops.toList = some l) :
    CodeOk P ins kept n (cReg A rn l) (.region id ops false) := by
  intro T D H nx o hr ρ a w hH ha
  unfold compileOps at h
  simp only [cond_false, Option.map_eq_some_iff] at h
  obtain ⟨s', hs, rfl⟩ := h
  obtain ⟨new, hout, hall⟩ := seq_region hA hcall hins _ _ _ hs
  refine wp_region ?_
  have hn : s'.out.reverse = new := by rw [hout]; simp [laid0]
  have hr' : runOps A rn s'.out.reverse T [] D H nx = some o := hr
  rw [hn] at hr'
  have := hall T [] D H nx o (fun t => (getP T (slotPath t)).getD undef) hr' ⟨fun t od h => by simp [laid0] at h, fun t _ => rfl⟩ ρ a w hH ⟨ha.env.size, fun t od h => by simp [laid0] at h, ha.env.kept⟩ ha.dfr (OutR ρ H nx w kept n o) fun e a' w' h => h
  simpa using this

structure Rec where
  i : Nat
  o : Oper
  a : AOp Operand
  σ : Sig
  D : List Dfd
  H : Heap
  nx : Nat
  v : Value
  D' : List Dfd
  H' : Heap
  nx' : Nat

/-- where the engine stands behind these, the newest first -/
def At (σ0 : Sig) (D0 : List Dfd) (H0 : Heap) (nx0 : Nat) : List Rec → Sig → List Dfd → Heap → Nat → Prop
  | [], σ, D, H, nx => σ = σ0 ∧ D = D0 ∧ H = H0 ∧ nx = nx0
  | q :: _, σ, D, H, nx => σ = q.σ.set q.o.dst q.v ∧ D = q.D' ∧ H = q.H' ∧ nx = q.nx'

def bit (bef : List Nat) (i j : Nat) : Bool := Nat.testBit (bef.getD i 0) j

structure RecOk (P : Program) (A : AProg) (rn : Run) (ins kept : List Nat) (n : Nat) (ops : List Oper) (bef : List Nat) (pre : List Rec) (r : Rec) : Prop where
  op : ops[r.i]? = some r.o
  comp : compileOp P ins r.o = some r.a
  step : ∃ env T L b g, r.a.trav (cv kept n env) = some b ∧ guardC ops env r.o.guard = some g ∧ EnvS kept r.σ env T L ∧ (∀ t od, (t, od) ∈ env → ∃ q ∈ pre, q.o.dst = some t) ∧ Step A rn r.o b g T L r.D r.H r.nx r.v r.D' r.H' r.nx'
  dst : ∀ d, r.o.dst = some d → d < n
  befs : ∀ j, bit bef r.i j = true → ∃ q ∈ pre, q.i = j
  new : ∀ q ∈ pre, q.i ≠ r.i
  hyg : hygienic ops bef r.i r.o = true
  grd : ∀ g w, r.o.guard = some (g, w) → bit bef r.i g = true
  heavy : isHeavy (kdOf r.a) = true → ∀ q ∈ pre, isHeavy (kdOf q.a) = true ∨ isMake (kdOf q.a) = true → bit bef r.i q.i = true
  load : isLoad (kdOf r.a) = true → ∀ q ∈ pre, isHeavy (kdOf q.a) = true → bit bef r.i q.i = true
  again : isHeavy (kdOf r.a) = true → ∀ q ∈ pre, isLoad (kdOf q.a) = true → bit bef r.i q.i = false → ∃ done, (∀ j, Nat.testBit done j = true ↔ ∃ q ∈ pre, q.i = j) ∧ AgainJ P ops bef done (r.σ.set r.o.dst r.v) r.H' q.i

/-- all that was written down, the newest first -/
def Chain (P : Program) (A : AProg) (rn : Run) (ins kept : List Nat) (n : Nat) (ops : List Oper) (bef : List Nat) (σ0 : Sig) (D0 : List Dfd) (H0 : Heap) (nx0 : Nat) : List Rec → Prop
  | [] => True
  | r :: pre => RecOk P A rn ins kept n ops bef pre r ∧ At σ0 D0 H0 nx0 pre r.σ r.D r.H r.nx ∧ Chain P A rn ins kept n ops bef σ0 D0 H0 nx0 pre

structure LaidOk (pre : List Rec) (s : Laid) : Prop where
  done : ∀ j, Nat.testBit s.done j = true ↔ ∃ q ∈ pre, q.i = j
  heavy : ∀ q ∈ pre, isHeavy (kdOf q.a) = true → Nat.testBit s.heavy q.i = true
  make : ∀ q ∈ pre, isMake (kdOf q.a) = true → Nat.testBit s.make q.i = true
  loads : ∀ q ∈ pre, isLoad (kdOf q.a) = true → q.i ∈ s.loads
  onlyL : ∀ j ∈ s.loads, ∃ q ∈ pre, q.i = j
  env : ∀ t od, (t, od) ∈ s.env → ∃ q ∈ pre, q.o.dst = some t

theorem kdOf_map {α β : Type} (f : α → β) (a : AOp α) : kdOf (a.map f) = kdOf a := by cases a <;> rfl
theorem kdOf_trav {α β : Type} {c : α → Option β} {a : AOp α} {b : AOp β} (d : β) (h : a.trav c = some b) : kdOf b = kdOf a := by
  rw [(trav_sound d h).1, kdOf_map]

theorem sub_bit {a b j : Nat} (h : sub a b = true) (hj : Nat.testBit a j = true) : Nat.testBit b j = true := by
  have e : a &&& b = a := Nat.eq_of_beq_eq_true h
  rw [← e, Nat.testBit_and] at hj
  simp at hj
  exact hj.2

theorem bit_or {s i j : Nat} : Nat.testBit (s ||| 2 ^ i) j = true ↔ Nat.testBit s j = true ∨ j = i := by
  rw [Nat.testBit_or, Bool.or_eq_true, Nat.testBit_two_pow]
  simp only [decide_eq_true_eq]
  constructor
  · rintro (h | h)
    · exact .inl h
    · exact .inr h.symm
  · rintro (h | h)
    · exact .inl h
    · exact .inr h.symm

/-- the masks, one operation later -/
theorem LaidOk.next {pre : List Rec} {s0 s1 : Laid} {r : Rec} (h : LaidOk pre s0) (hs : SameBut s0 s1) (hdom : ∀ t od, (t, od) ∈ s1.env → some t = r.o.dst ∨ ∃ od', (t, od') ∈ s0.env) :
    LaidOk (r :: pre) { s1 with loads := (bif isLoad (kdOf r.a) then r.i :: s1.loads else s1.loads), heavy := (bif isHeavy (kdOf r.a) then s1.heavy ||| 2 ^ r.i else s1.heavy), make := (bif isMake (kdOf r.a) then s1.make ||| 2 ^ r.i else s1.make), done := s1.done ||| 2 ^ r.i } := by
  refine ⟨fun j => ?_, fun q hq hk => ?_, fun q hq hk => ?_, fun q hq hk => ?_, fun j hj => ?_, fun t od ht => ?_⟩
  · show Nat.testBit (s1.done ||| 2 ^ r.i) j = true ↔ _
    rw [bit_or, hs.done, h.done]
    simp only [List.mem_cons, exists_eq_or_imp]
    constructor
    · rintro (h | h)
      · exact .inr h
      · exact .inl h.symm
    · rintro (h | h)
      · exact .inr h.symm
      · exact .inl h
  · show Nat.testBit (bif isHeavy (kdOf r.a) then s1.heavy ||| 2 ^ r.i else s1.heavy) q.i = true
    rcases List.mem_cons.1 hq with rfl | hq
    · rw [hk]; exact bit_or.2 (.inr rfl)
    · have := h.heavy q hq hk
      rw [hs.heavy]
      cases isHeavy (kdOf r.a)
      · exact this
      · exact bit_or.2 (.inl this)
  · show Nat.testBit (bif isMake (kdOf r.a) then s1.make ||| 2 ^ r.i else s1.make) q.i = true
    rcases List.mem_cons.1 hq with rfl | hq
    · rw [hk]; exact bit_or.2 (.inr rfl)
    · have := h.make q hq hk
      rw [hs.make]
      cases isMake (kdOf r.a)
      · exact this
      · exact bit_or.2 (.inl this)
  · show q.i ∈ (bif isLoad (kdOf r.a) then r.i :: s1.loads else s1.loads)
    rcases List.mem_cons.1 hq with rfl | hq
    · rw [hk]; exact List.mem_cons_self
    · have := h.loads q hq hk
      rw [hs.loads]
      cases isLoad (kdOf r.a)
      · exact this
      · exact List.mem_cons_of_mem _ this
  · have hj' : j ∈ (bif isLoad (kdOf r.a) then r.i :: s1.loads else s1.loads) := hj
    have : j = r.i ∨ j ∈ s0.loads := by
      rw [hs.loads] at hj'
      cases hb : isLoad (kdOf r.a) <;> rw [hb] at hj'
      · exact .inr hj'
      · exact List.mem_cons.1 hj'
    rcases this with rfl | hj
    · exact ⟨r, List.mem_cons_self, rfl⟩
    · obtain ⟨q, hq, e⟩ := h.onlyL j hj
      exact ⟨q, List.mem_cons_of_mem _ hq, e⟩
  · rcases hdom t od ht with e | ⟨od', g⟩
    · exact ⟨r, List.mem_cons_self, e.symm⟩
    · obtain ⟨q, hq, e⟩ := h.env t od' g
      exact ⟨q, List.mem_cons_of_mem _ hq, e⟩

theorem lay_trace {solo : List Nat} {σ0 : Sig} {D0 : List Dfd} {H0 : Heap} {nx0 : Nat} (hA : A.P = P) : ∀ (is : List Nat) (s s' : Laid), layAll P ins kept n true ops bef solo is s = some s' → ∃ new, s'.out = new.reverse ++ s.out ∧
    ∀ pre T L D H nx r σ, runOps A rn new T L D H nx = some r → EnvS kept σ s.env T L → LaidOk pre s → Chain P A rn ins kept n ops bef σ0 D0 H0 nx0 pre → At σ0 D0 H0 nx0 pre σ D H nx → (∀ ch, r.1 ≠ .panic ch) →
      ∃ R T' σ' D' H' nx', LaidOk R s' ∧ Chain P A rn ins kept n ops bef σ0 D0 H0 nx0 R ∧ At σ0 D0 H0 nx0 R σ' D' H' nx' ∧ (∀ t, isIn kept t = true → (getP T' (slotPath t)).getD undef = σ' t) ∧ r = (.normal, ⟨T', D', H', nx'⟩) := by
  intro is
  induction is with
  | nil =>
    intro s s' h
    cases h
    refine ⟨[], rfl, fun pre T L D H nx r σ hr he hl hch hat _ => ?_⟩
    have hr' : some (Ex.normal, (⟨T, D, H, nx⟩ : St)) = some r := hr
    cases hr'
    exact ⟨pre, T, σ, D, H, nx, hl, hch, hat, he.kept, rfl⟩
  | cons i is ih =>
    intro s s' h
    unfold layAll at h
    cases ho : ops[i]? with
    | none => rw [ho] at h; cases h
    | some o =>
      rw [ho] at h
      simp only [cond_true] at h
      split at h
      · cases h
      · rename_i s1 hs1
        split at h
        · cases h
        · rename_i k hk
          obtain ⟨hdst, h⟩ := bif_both h
          have hlt : ∀ d, o.dst = some d → d < n := by
            intro d hd
            rw [hd] at hdst
            have hdst' : Nat.blt d n = true := hdst
            rwa [Nat.blt_eq] at hdst'
          obtain ⟨hchk, h⟩ := bif_both h
          simp only [Bool.not_true, Bool.false_or, Bool.and_eq_true, Bool.not_eq_true'] at hchk
          obtain ⟨⟨⟨⟨c1, c2⟩, c3⟩, c4⟩, c5⟩ := hchk
          obtain ⟨new1, env, a, b, g, hc, ht, hg, hout, hsame, hdom, hdom1, hrun⟩ := layOp_run (A := A) (rn := rn) hs1
          have hka : k = a := by rw [hk] at hc; exact Option.some.inj hc
          subst hka
          obtain ⟨new2, hout2, hrest⟩ := ih _ _ h
          refine ⟨new1 ++ new2, ?_, fun pre T L D H nx r σ hr he hl hch hat hnp => ?_⟩
          · rw [hout2]
            show new2.reverse ++ s1.out = _
            rw [hout]
            simp
          · obtain ⟨L1, hE, hcase⟩ := hrun new2 T L D H nx r σ hA hr he
            rcases hcase with ⟨v, D', H', nx', T', L', hst, hr2, hE2, hag⟩ | ⟨hw, ch, H', nx', hrp, hall⟩
            · have hkd : kdOf b = kdOf k := kdOf_trav (.loc 0) ht
              have hrec : RecOk P A rn ins kept n ops bef pre ⟨i, o, k, σ, D, H, nx, v, D', H', nx'⟩ := by
                refine ⟨ho, hk, ⟨env, T, L1, b, g, ht, hg, hE, fun t od hm => ?_, hst⟩, hlt, fun j hj => (hl.done j).1 (sub_bit c1 hj), fun q hq e => ?_, c3, fun g' w' hgd => ?_, fun hh q hq hqk => ?_, fun hh q hq hqk => ?_, fun hh q hq hqk hbit => ?_⟩
                · obtain ⟨od', hm'⟩ := hdom t od hm
                  exact hl.env t od' hm'
                · have := (hl.done i).2 ⟨q, hq, e⟩
                  rw [c2] at this
                  cases this
                · have hgd' : o.guard = some (g', w') := hgd
                  rw [hgd'] at c4
                  exact c4
                · have hh' : isHeavy (kdOf k) = true := hh
                  cases hkk : kdOf k <;> rw [hkk] at hh' <;> first | cases hh' | skip
                  rw [hkk] at c5
                  have c5' : (sub s.heavy (bef.getD i 0) && sub s.make (bef.getD i 0)) = true := c5
                  rw [Bool.and_eq_true] at c5'
                  rcases hqk with hqk | hqk
                  · exact sub_bit c5'.1 (hl.heavy q hq hqk)
                  · exact sub_bit c5'.2 (hl.make q hq hqk)
                · have hh' : isLoad (kdOf k) = true := hh
                  cases hkk : kdOf k <;> rw [hkk] at hh' <;> first | cases hh' | skip
                  rw [hkk] at c5
                  have c5' : sub s.heavy (bef.getD i 0) = true := c5
                  exact sub_bit c5' (hl.heavy q hq hqk)
                · exact ⟨s.done, hl.done, hag (by rw [hkd]; exact hh) q.i (hl.loads q hq hqk) hbit⟩
              obtain ⟨R, T2, σ2, D2, H2, nx2, q1, q2, q3, q4, q5⟩ := hrest (⟨i, o, k, σ, D, H, nx, v, D', H', nx'⟩ :: pre) T' L' D' H' nx' r _ hr2 hE2 (hl.next (r := ⟨i, o, k, σ, D, H, nx, v, D', H', nx'⟩) hsame hdom1) ⟨hrec, hat, hch⟩ ⟨rfl, rfl, rfl, rfl⟩ hnp
              exact ⟨R, T2, σ2, D2, H2, nx2, q1, q2, q3, q4, q5⟩
            · exact absurd (by rw [hrp]) (hnp ch)
end Go.Eng
/- The engine: its counter never goes down. -/
namespace Go.Eng
variable {P : Program} {ins kept : List Nat} {n : Nat} {A : AProg} {rn : Run} {T : Tr Value} {L : List Value} {D : List Dfd} {H : Heap} {nx : Nat}

def Up (f : RC) : Prop := ∀ T D H nx o, f T D H nx = some o → nx ≤ o.2.nx
def CRet.count : CRet → Nat
  | .ok _ _ nx => nx
  | .pan _ _ nx => nx
structure UpRun (r : Run) : Prop where
  code : ∀ c, Up (r.code c)
  call : ∀ g vs H nx c, r.call g vs H nx = some c → nx ≤ c.count
def UpK (k : RL) : Prop := ∀ T L D H nx r, k T L D H nx = some r → nx ≤ r.2.nx

theorem againK_tail {X : R0} {r : Ex × St} : ∀ {as : List Again}, againK P T L H as X = some r → X = some r := by
  intro as
  induction as with
  | nil => intro h; exact h
  | cons a as ih => intro h; exact ih (again1_some h).1

theorem contO_up {p : Option (List Bool)} {ag : List Again} {k : RL} {v : Value} {r : Ex × St} (hk : UpK k) (h : contO P p ag k T L D v H nx = some r) : nx ≤ r.2.nx := by
  unfold contO at h
  rw [keepK_put] at h
  exact hk _ _ _ _ _ _ (againK_tail h)

theorem onRet_up {p : Option (List Bool)} {ag : List Again} {k : RL} {c : CRet} {r : Ex × St} (hk : UpK k) (hc : nx ≤ c.count) (h : onRet P p ag k T L D c = some r) : nx ≤ r.2.nx := by
  cases c with
  | ok v H' nx' => exact Nat.le_trans hc (contO_up hk h)
  | pan ch H' nx' =>
    have h' : some (Ex.panic ch, (⟨T, D, H', nx'⟩ : St)) = some r := h
    cases h'
    exact hc

theorem opT_up {b : AOp Od} {p : Option (List Bool)} {ag : List Again} {k : RL} {r : Ex × St} (hu : UpRun rn) (hk : UpK k) (h : opT b A rn p ag k b T L D H nx = some r) : nx ≤ r.2.nx := by
  by_cases hp : b.plain = true
  · rw [opT_plain hp] at h
    have h' : actT b A.P T L H nx (uk fun x => contO A.P p ag k T L D x.1 x.2.1 x.2.2) = some r := h
    obtain ⟨x, h1, _, h3⟩ := actT_detP b _ r h'
    exact Nat.le_trans h3 (contO_up hk h1)
  · cases b with
    | call f args =>
      have h' : evK T L f (fun f => evsK T L args fun vs => targetK vs (fun g vs => bd (rn.call g vs H nx) (onRet A.P p ag k T L D)) f) = some r := h
      rw [evK_eq] at h'
      obtain ⟨fv, hfv, h1⟩ := bd_eq h'
      rw [evsK_eq] at h1
      obtain ⟨vs, hvs, h2⟩ := bd_eq h1
      unfold targetK at h2
      split at h2
      · obtain ⟨c, g1, g2⟩ := bd_eq h2
        exact onRet_up hk (hu.call _ _ _ _ _ g1) g2
      · cases h2
    | inv x name args =>
      have h' : evK T L x (fun x => evsK T L args fun vs => invV A.P name H (fun g v => bd (rn.call g (v :: vs) H nx) (onRet A.P p ag k T L D)) x) = some r := h
      rw [evK_eq] at h'
      obtain ⟨fv, hfv, h1⟩ := bd_eq h'
      rw [evsK_eq] at h1
      obtain ⟨vs, hvs, h2⟩ := bd_eq h1
      have hd : DetP (fun _ => True) fun k' : FuncId × Value → R0 => invV A.P name H (fun g v => k' (g, v)) fv := by
        unfold invV
        split
        · refine .bd fun m => ?_
          unfold recvK
          cases m.2 with
          | none => exact .ret _ trivial
          | some agg => exact .ptr fun _ _ => .cells fun _ => .bd fun _ => .ret _ trivial
        · exact .no
      obtain ⟨y, g1, _⟩ := hd.det (fun y => bd (rn.call y.1 (y.2 :: vs) H nx) (onRet A.P p ag k T L D)) r h2
      obtain ⟨c, k1, k2⟩ := bd_eq g1
      exact onRet_up hk (hu.call _ _ _ _ _ k1) k2
    | dfr f args =>
      have h' : evK T L f (fun f => evsK T L args fun vs => onFn f (contO A.P p ag k T L ((f, vs) :: D) undef H nx)) = some r := h
      rw [evK_eq] at h'
      obtain ⟨fv, hfv, h1⟩ := bd_eq h'
      rw [evsK_eq] at h1
      obtain ⟨vs, hvs, h2⟩ := bd_eq h1
      unfold onFn at h2
      split at h2
      · exact contO_up hk h2
      · cases h2
    | pan x =>
      have h' : evK T L x (panV T D H nx) = some r := h
      rw [evK_eq] at h'
      obtain ⟨v, hv, h1⟩ := bd_eq h'
      unfold panV at h1
      split at h1
      · cases h1; exact Nat.le_refl _
      · cases h1
    | rcv => cases h
    | ins z bytes s i v =>
      have h' : actT (.ins z bytes s i v) A.P T L H nx (uk fun x => contO A.P p ag k T L D x.1 x.2.1 x.2.2) = some r := h
      obtain ⟨x, h1, _, h3⟩ := actT_detP _ _ r h'
      exact Nat.le_trans h3 (contO_up hk h1)
    | _ => exact absurd rfl hp

theorem opT_up' {b : AOp Od} {v : Value} {D' : List Dfd} {H' : Heap} {nx' : Nat} (hu : UpRun rn) (h : ∀ p ag k, opT b A rn p ag k b T L D H nx = contO A.P p ag k T L D' v H' nx') : nx ≤ nx' :=
  opT_up (k := krec) (p := none) (ag := []) (r := (.normal, ⟨.n .e (some v) .e, D', H', nx'⟩)) hu (fun T L D H nx r h => by cases h; exact Nat.le_refl _) ((h none [] krec).trans (contO_nil.trans rfl))

theorem runOps_up (hu : UpRun rn) : ∀ l : List (AO × List Again), UpK (runOps A rn l) := by
  intro l
  induction l with
  | nil => intro T L D H nx r h; cases h; exact Nat.le_refl _
  | cons x l ih =>
    obtain ⟨o, ag⟩ := x
    intro T L D H nx r h
    have h' : cond (wanted L o.guard) (opT o.op A rn o.keep ag (runOps A rn l) o.op T L D H nx) (contO A.P o.keep ag (runOps A rn l) T L D undef H nx) = some r := h
    cases hw : wanted L o.guard with
    | true => rw [hw] at h'; exact opT_up hu ih h'
    | false => rw [hw] at h'; exact contO_up ih h'

theorem seqK_up {k : RC} {o1 o : Ex × St} (hk : Up k) (h : seqK k o1 = some o) : o1.2.nx ≤ o.2.nx := by
  obtain ⟨e, st⟩ := o1
  cases e with
  | normal => exact hk _ _ _ _ _ h
  | exit i => cases h; exact Nat.le_refl _
  | ret => cases h; exact Nat.le_refl _
  | panic c => cases h; exact Nat.le_refl _

theorem blockK_up {id : Nat} {o1 o : Ex × St} (h : blockK id o1 = some o) : o1.2.nx ≤ o.2.nx := by
  obtain ⟨e, st⟩ := o1
  cases e with
  | normal => cases h; exact Nat.le_refl _
  | exit i =>
    have h4 : (cond (Nat.beq i id) (stay .normal) (stay (.exit i))) st = some o := h
    cases hb : Nat.beq i id <;> (rw [hb] at h4; cases h4; exact Nat.le_refl _)
  | ret => cases h; exact Nat.le_refl _
  | panic c => cases h; exact Nat.le_refl _

theorem drawK_eq {o1 o : Ex × St} (h : drawK o1 = some o) : o1 = o ∧ o.1 = .normal := by
  obtain ⟨e, st⟩ := o1
  cases e <;> cases h
  exact ⟨rfl, rfl⟩

theorem codeT_up (hu : UpRun rn) : ∀ c : ACode, Up (codeT c A rn) := by
  intro c
  induction c with
  | skip => intro T D H nx o h; cases h; exact Nat.le_refl _
  | reg dr ops =>
    cases dr with
    | false => intro T D H nx o h; exact runOps_up hu ops T [] D H nx o h
    | true =>
      intro T D H nx o h
      obtain ⟨o1, h1, h2⟩ := bd_eq (show bd (runOps A rn ops T [] D H nx) drawK = some o from h)
      obtain ⟨rfl, _⟩ := drawK_eq h2
      exact runOps_up hu ops T [] D H nx _ h1
  | seq a b iha ihb =>
    intro T D H nx o h
    obtain ⟨o1, h1, h2⟩ := bd_eq (show bd (codeT a A rn T D H nx) (seqK (codeT b A rn)) = some o from h)
    exact Nat.le_trans (iha _ _ _ _ _ h1) (seqK_up ihb h2)
  | cond c a b iha ihb =>
    intro T D H nx o h
    have h' : evK T [] c (fun v => onBool v (codeT a A rn T D H nx) (codeT b A rn T D H nx)) = some o := h
    rw [evK_eq] at h'
    obtain ⟨v, hv, h1⟩ := bd_eq h'
    rcases onBool_some h1 with ⟨_, h2⟩ | ⟨_, h2⟩
    · exact iha _ _ _ _ _ h2
    · exact ihb _ _ _ _ _ h2
  | block id a iha =>
    intro T D H nx o h
    obtain ⟨o1, h1, h2⟩ := bd_eq (show bd (codeT a A rn T D H nx) (blockK id) = some o from h)
    exact Nat.le_trans (iha _ _ _ _ _ h1) (blockK_up h2)
  | loop a iha =>
    intro T D H nx o h
    obtain ⟨o1, h1, h2⟩ := bd_eq (show bd (codeT a A rn T D H nx) (seqK (rn.code (.loop a))) = some o from h)
    exact Nat.le_trans (iha _ _ _ _ _ h1) (seqK_up (hu.code _) h2)
  | exit id => intro T D H nx o h; cases h; exact Nat.le_refl _
  | ret => intro T D H nx o h; cases h; exact Nat.le_refl _

def startP : List Value → Nat → Tr Value → Tr Value
  | [], _, T => T
  | v :: l, i, T => startP l (i + 1) (insP (at_ i) T (some v))

theorem startT_eq (l : List Value) (T : Tr Value) (k : Tr Value → R0) : startT l T k = k (startP l 0 T) := by
  have : ∀ (l : List Value) (i : Nat) (T : Tr Value) (k : Tr Value → R0), (List.rec (motive := fun _ => Nat → Tr Value → (Tr Value → R0) → R0) (fun _ T k => k T) (fun v _ ih i T k => setP (at_ i) T (some v) fun T => ih (Nat.succ i) T k) l : Nat → Tr Value → (Tr Value → R0) → R0) i T k = k (startP l i T) := by
    intro l
    induction l with
    | nil => intro i T k; rfl
    | cons v l ih =>
      intro i T k
      show setP (at_ i) T (some v) (fun T => (List.rec (motive := fun _ => Nat → Tr Value → (Tr Value → R0) → R0) (fun _ T k => k T) (fun v _ ih i T k => setP (at_ i) T (some v) fun T => ih (Nat.succ i) T k) l : Nat → Tr Value → (Tr Value → R0) → R0) (Nat.succ i) T k) = _
      rw [setP_eq, ih]
      rfl
  exact this l 0 T k

theorem endD_up {o : Ex × St} {u : FrameMode} {y : FrameMode × Heap × Nat} (h : endD o u = some y) : y.2.2 = o.2.nx := by
  unfold endD at h
  split at h <;> cases h <;> rfl

theorem deferredK_up (hu : UpRun rn) {f : Value} {args : List Value} {u : FrameMode} {y : FrameMode × Heap × Nat} (h : deferredK A rn f args u H nx = some y) : nx ≤ y.2.2 := by
  unfold deferredK at h
  split at h
  · split at h
    · split at h
      · obtain ⟨o, h1, h2⟩ := bd_eq h
        rw [startT_eq, setP_eq] at h1
        rw [endD_up h2]
        exact codeT_up hu _ _ _ _ _ _ h1
      · obtain ⟨o, h1, h2⟩ := bd_eq h
        rw [startT_eq] at h1
        rw [endD_up h2]
        exact codeT_up hu _ _ _ _ _ _ h1
    · cases h
  · cases h

theorem unwindD_up (hu : UpRun rn) : ∀ (D : List Dfd) (u : FrameMode) (H : Heap) (nx : Nat) (y : FrameMode × Heap × Nat), unwindD A rn D u H nx = some y → nx ≤ y.2.2 := by
  intro D
  induction D with
  | nil => intro u H nx y h; cases h; exact Nat.le_refl _
  | cons d D ih =>
    obtain ⟨f, args⟩ := d
    intro u H nx y h
    unfold unwindD at h
    split at h
    · rename_i u1 H1 nx1 h1
      exact Nat.le_trans (deferredK_up hu h1) (ih _ _ _ _ h)
    · cases h

theorem resultsK_ok {l : List (Od × Option (Option Nat))} {k : List Value → Option CRet} {c : CRet} (h : resultsK T H l k = some c) : ∃ vs, k vs = some c := by
  induction l generalizing k with
  | nil => exact ⟨[], h⟩
  | cons x l ih =>
    have h' : resK T H x (fun v => resultsK T H l fun vs => k (v :: vs)) = some c := h
    have hk : ∀ v, resultsK T H l (fun vs => k (v :: vs)) = some c → ∃ vs, k vs = some c := by
      intro v hv
      obtain ⟨vs, g⟩ := ih hv
      exact ⟨v :: vs, g⟩
    unfold resK at h'
    split at h'
    · obtain ⟨v, _, g⟩ := bd_eq h'; exact hk v g
    · split at h'
      · split at h'
        · obtain ⟨v, _, g⟩ := bd_eq h'; exact hk v g
        · cases h'
      · cases h'
    · cases h'

theorem leaveF_up (hu : UpRun rn) {af : AFunc} {u : FrameMode} {st : St} {c : CRet} (h : leaveF A rn af u st = some c) : st.nx ≤ c.count := by
  obtain ⟨T, D, H, nx⟩ := st
  obtain ⟨y, h1, h2⟩ := bd_eq (show bd (unwindD A rn D u H nx) (leaveM af T) = some c from h)
  have h3 := unwindD_up hu _ _ _ _ _ h1
  refine Nat.le_trans h3 ?_
  obtain ⟨m, H', nx'⟩ := y
  unfold leaveM at h2
  split at h2
  · rename_i hx
    cases hx
    obtain ⟨vs, g⟩ := resultsK_ok h2
    cases g
    exact Nat.le_refl _
  · rename_i hx
    cases hx
    cases h2
    exact Nat.le_refl _
  · cases h2

theorem run_up (hk : ∀ g vs H nx c, A.hook g vs H nx = some c → nx ≤ c.count) (n : Nat) : UpRun (run A n) := by
  induction n with
  | zero => exact ⟨(fun c T D H nx o h => by cases h), (fun g vs H nx c h => by cases h)⟩
  | succ n ih =>
    refine ⟨fun c => codeT_up ih c, fun g vs H nx c h => ?_⟩
    have h' : (Option.rec (bd (A.funcs g) (callF1 A (run A n) vs H nx)) some (A.hook g vs H nx) : Option CRet) = some c := h
    cases hh : A.hook g vs H nx with
    | some c' =>
      rw [hh] at h'
      cases h'
      exact hk _ _ _ _ _ hh
    | none =>
    rw [hh] at h'
    obtain ⟨af, h1, h2⟩ := bd_eq (show bd (A.funcs g) (callF1 A (run A n) vs H nx) = some c from h')
    obtain ⟨o, h3, h4⟩ := bd_eq (show bd (startT vs .e fun T => codeT af.body A (run A n) T [] H nx) (endF A (run A n) af) = some c from h2)
    rw [startT_eq] at h3
    have h5 := codeT_up ih _ _ _ _ _ _ h3
    refine Nat.le_trans h5 ?_
    obtain ⟨e, st⟩ := o
    cases e with
    | normal => exact leaveF_up ih h4
    | exit i => cases h4
    | ret => exact leaveF_up ih h4
    | panic ch => exact leaveF_up ih h4
end Go.Eng
/- The engine: the operands of a compiled operation are the operation's. -/
namespace Go.Eng
variable {P : Program} {ins : List Nat}

theorem placesS_mem {fs : List Field} : ∀ {l : List (Nat × Operand)} {r : List (Nat × Nat × Operand)}, placesS P fs l = some r → ∀ x ∈ r, x.2.2 ∈ l.map (·.2) := by
  intro l
  induction l with
  | nil => intro r h x hx; cases h; simp at hx
  | cons y l ih =>
    obtain ⟨i, y⟩ := y
    intro r h x hx
    unfold placesS at h
    split at h
    · rename_i f rs _ hrs
      split at h
      · cases h
        rcases List.mem_cons.1 hx with rfl | hx
        · simp
        · exact List.mem_cons_of_mem _ (ih hrs x hx)
      · cases h
    · cases h

theorem placesA_mem {z : Nat} : ∀ {l : List (Nat × Operand)}, ∀ x ∈ placesA z l, x.2.2 ∈ l.map (·.2) := by
  intro l
  induction l with
  | nil => intro x hx; simp [placesA] at hx
  | cons y l ih =>
    obtain ⟨i, y⟩ := y
    intro x hx
    rcases List.mem_cons.1 hx with rfl | hx
    · simp
    · exact List.mem_cons_of_mem _ (ih x hx)

theorem comp_operands {o : Oper} {a : AOp Operand} (h : compileOp P ins o = some a) : a.all fun x => x ∈ o.op.operands.toList := by
  cases ho : o.op with
  | build t parts =>
    simp only [compileOp, ho] at h
    split at h
    · obtain ⟨ps, hps, rfl⟩ := Option.map_eq_some_iff.1 (bif_some h)
      intro x hx
      simpa [Op.operands] using placesS_mem hps x hx
    · split at h
      · cases h
        intro x hx
        simpa [Op.operands] using placesA_mem x hx
      · cases h
    · cases h
  | buildSlice t len parts =>
    simp only [compileOp, ho] at h
    split at h
    · split at h
      · replace h := bif_some h
        cases h
        intro x hx
        simpa [Op.operands] using placesA_mem x hx
      · cases h
    · cases h
  | binOp op t x y b =>
    simp only [compileOp, ho] at h
    unfold compileBin at h
    repeat' split at h
    all_goals first
      | (replace h := bif_some h; cases h; simp [AOp.all, Op.operands])
      | (cases h; done)
      | (cases h; simp [AOp.all, Op.operands])
  | call d =>
    simp only [compileOp, ho] at h
    cases hd : d.callee with
    | builtin b =>
      rw [hd] at h
      simp only at h
      have hargs : ∀ x ∈ d.args.toList, x ∈ (Op.call d).operands.toList := by
        intro x hx
        simp only [Op.operands, Call.operands, hd]
        simpa using hx
      unfold compileBuiltin at h
      generalize d.args.toList = as at h hargs
      generalize d.argTypes.toList = ts at h
      repeat' split at h
      all_goals first
        | (cases h; done)
        | (replace h := bif_some h; cases h; simp only [AOp.all]; refine ⟨hargs _ ?_, hargs _ ?_⟩ <;> simp)
        | (cases h; simp only [AOp.all]; refine ⟨hargs _ ?_, hargs _ ?_⟩ <;> simp)
        | (cases h; simp only [AOp.all]; exact hargs _ (by simp))
        | (cases h; exact hargs)
        | (cases h; simp [AOp.all])
    | value f =>
      rw [hd] at h
      have hf : f ∈ (Op.call d).operands.toList := by simp [Op.operands, Call.operands, hd]
      have hargs : ∀ x ∈ d.args.toList, x ∈ (Op.call d).operands.toList := by
        intro x hx
        simp only [Op.operands, Call.operands, hd]
        simp [Array.mem_def.2 hx]
      cases f with
      | func g =>
        simp only at h
        cases hg : isIn ins g with
        | true =>
          rw [hg] at h
          simp only [cond_true] at h
          split at h
          · rename_i s i v t ts hargs' _
            rw [hargs'] at hargs
            split at h
            · split at h
              · cases h
                exact ⟨hargs _ (by simp), hargs _ (by simp), hargs _ (by simp)⟩
              · cases h
            · cases h
          · cases h
        | false => rw [hg] at h; cases h; exact ⟨hf, hargs⟩
      | _ => simp only at h; cases h; exact ⟨hf, hargs⟩
    | invoke x name =>
      rw [hd] at h
      simp only at h
      cases h
      have hf : x ∈ (Op.call d).operands.toList := by simp [Op.operands, Call.operands, hd]
      refine ⟨hf, fun y hy => ?_⟩
      simp only [Op.operands, Call.operands, hd]
      simp [Array.mem_def.2 hy]
  | defer d =>
    simp only [compileOp, ho] at h
    split at h
    · rename_i f hd
      cases h
      refine ⟨by simp [Op.operands, Call.operands, hd], fun y hy => ?_⟩
      simp only [Op.operands, Call.operands, hd]
      simp [Array.mem_def.2 hy]
    · cases h
  | makeFunc f a b =>
    cases f with
    | func f =>
      simp only [compileOp, ho, Option.some.injEq] at h
      subst h
      refine ⟨fun x hx => ?_, fun x hx => ?_⟩ <;> simp [Op.operands, Array.mem_def.2 hx]
    | _ => simp only [compileOp, ho] at h; cases h
  | slice t x lo hi mx =>
    have key : ∀ y, (y = x ∨ y ∈ lo ∨ y ∈ hi ∨ y ∈ mx) → y ∈ (Op.slice t x lo hi mx).operands.toList := by
      intro y
      cases lo <;> cases hi <;> cases mx <;> simp [Op.operands] <;> grind
    simp only [compileOp, ho] at h
    split at h
    · replace h := bif_some h
      obtain ⟨z, _, rfl⟩ := Option.map_eq_some_iff.1 h
      exact ⟨key _ (.inl rfl), fun y hy => key _ (.inr (.inl hy)), fun y hy => key _ (.inr (.inr (.inl hy))), fun y hy => key _ (.inr (.inr (.inr hy)))⟩
    · split at h
      · cases h
        exact ⟨key _ (.inl rfl), fun y hy => key _ (.inr (.inl hy)), fun y hy => key _ (.inr (.inr (.inl hy)))⟩
      · cases h
    · cases h
  | makeMap t r =>
    simp only [compileOp, ho] at h
    split at h
    · cases h
      intro x hx
      simp [Op.operands]
      exact hx
    · cases h
  | _ =>
    simp only [compileOp, ho] at h
    repeat' split at h
    all_goals first
      | (cases h; done)
      | (replace h := bif_some h; cases h; simp [AOp.all, Op.operands]; done)
      | (obtain ⟨z, _, rfl⟩ := Option.map_eq_some_iff.1 h; simp [AOp.all, Op.operands]; done)
      | (cases h; simp [AOp.all, Op.operands]; done)
end Go.Eng
/- The engine: values that speak of early blocks alone. -/
namespace Go.Eng
variable {P : Program} {ρ ρ' : Rho} {n m : Nat}

def Rho.upto (ρ : Rho) (n : Nat) : Rho := fun b => if b < n then ρ b else none
def Below (ρ : Rho) (n : Nat) : Prop := ∀ b, n ≤ b → ρ b = none

theorem Rho.upto_lt {b : Nat} (h : b < n) : ρ.upto n b = ρ b := if_pos h
theorem Rho.upto_ge {b : Nat} (h : n ≤ b) : ρ.upto n b = none := if_neg (Nat.not_lt.2 h)
theorem below_upto : Below (ρ.upto n) n := fun _ h => Rho.upto_ge h
theorem upto_ext : Ext (ρ.upto n) ρ := by
  intro b r h
  unfold Rho.upto at h
  split at h
  · exact h
  · cases h
theorem upto_some {b : Nat} {r r' : Ref} (h : ρ b = some r) (h' : ρ' b = some r') (hb : Below ρ' n) : ρ.upto n b = some r := by
  have : b < n := by
    rcases Nat.lt_or_ge b n with h1 | h1
    · exact h1
    · rw [hb b h1] at h'; cases h'
  rw [Rho.upto_lt this]; exact h

mutual
theorem VR.upto (hb : Below ρ' n) : ∀ {v u u' : Value}, VR ρ v u → VR ρ' v u' → VR (ρ.upto n) v u
  | _, _, _, .sc h, _ => .sc h
  | _, _, _, .nilI, _ => .nilI
  | _, _, _, .pnil, _ => .pnil
  | _, _, _, .ptr h, h' => by
    cases h' with
    | sc h => simp [scalar] at h
    | ptr h' => exact .ptr (upto_some h h' hb)
  | _, _, _, .snil, _ => .snil
  | _, _, _, .sl h hl hs he hp, h' => by
    cases h' with
    | sc h => simp [scalar] at h
    | sl h' _ _ _ _ => exact .sl (upto_some h h' hb) hl hs he hp
  | _, _, _, .mnil, _ => .mnil
  | _, _, _, .map h, h' => by
    cases h' with
    | sc h => simp [scalar] at h
    | map h' => exact .map (upto_some h h' hb)
  | _, _, _, .func h1 h2, h' => by
    cases h' with
    | sc h => simp [scalar] at h
    | func h3 h4 => exact .func (VRs.upto hb h1 h3) (VRs.upto hb h2 h4)
  | _, _, _, .iface h, h' => by
    cases h' with
    | sc h => simp [scalar] at h
    | iface h' => exact .iface (VR.upto hb h h')
  | _, _, _, .agg h, h' => by
    cases h' with
    | sc h => simp [scalar] at h
    | agg h' => exact .agg (VRs.upto hb h h')
  | _, _, _, .tuple h, h' => by
    cases h' with
    | sc h => simp [scalar] at h
    | tuple h' => exact .tuple (VRs.upto hb h h')
theorem VRs.upto (hb : Below ρ' n) : ∀ {v u u' : List Value}, VRs ρ v u → VRs ρ' v u' → VRs (ρ.upto n) v u
  | _, _, _, .nil, _ => .nil
  | _, _, _, .cons h hs, h' => by
    cases h' with
    | cons h1 h2 => exact .cons (VR.upto hb h h1) (VRs.upto hb hs h2)
end

theorem ERs.upto (hb : Below ρ' n) {v u u' : List MapEntry} (h : ERs ρ v u) (h' : ERs ρ' v u') : ERs (ρ.upto n) v u := by
  induction h generalizing u' with
  | nil => exact .nil
  | cons hk hv hbn _ ih =>
    cases h' with
    | cons hk' hv' _ h' => exact .cons (hk.upto hb hk') (hv.upto hb hv') hbn (ih h')

theorem BR.upto (hb : Below ρ' n) {hp hp' : Array Obj} {r r' : Ref} {k : Blk} (h : BR ρ hp r k) (h' : BR ρ' hp' r' k) : BR (ρ.upto n) hp r k := by
  cases k with
  | cells cs =>
    obtain ⟨a, e, h1, h2, h3⟩ := h
    obtain ⟨a', e', _, _, h3'⟩ := h'
    refine ⟨a, e, h1, h2, fun i v hv => ?_⟩
    obtain ⟨u, g1, g2⟩ := h3 i v hv
    obtain ⟨u', _, g2'⟩ := h3' i v hv
    exact ⟨u, g1, g2.upto hb g2'⟩
  | map es c =>
    obtain ⟨es1, h1, h2⟩ := h
    obtain ⟨es1', _, h2'⟩ := h'
    exact ⟨es1, h1, h2.upto hb h2'⟩

theorem DfR.upto (hb : Below ρ' n) {x : Dfd} {d d' : Deferred} (h : DfR ρ x d) (h' : DfR ρ' x d') : DfR (ρ.upto n) x d := by
  obtain ⟨f, a, a', c, c', vs, h1, h2, h3, h4, h5⟩ := h
  obtain ⟨f', a2, a2', c2, c2', vs', h1', h2', h3', h4', h5'⟩ := h'
  rw [h1] at h1'
  simp only [Value.func.injEq, Fn.func.injEq, Array.mk.injEq] at h1'
  obtain ⟨rfl, rfl, rfl⟩ := h1'
  exact ⟨f, a, a', c, c', vs, h1, h2, h3.upto hb h3', h4.upto hb h4', h5.upto hb h5'⟩

theorem DfRs.upto (hb : Below ρ' n) {l : List Dfd} {d d' : List Deferred} (h : DfRs ρ l d) (h' : DfRs ρ' l d') : DfRs (ρ.upto n) l d := by
  induction h generalizing d' with
  | nil => exact .nil
  | cons hx _ ih =>
    cases h' with
    | cons hx' h' => exact .cons (hx.upto hb hx') (ih h')

/-- it speaks of blocks below 'n' alone -/
def VLow (n : Nat) (v : Value) : Prop := ∃ ρ u, VR ρ v u ∧ Below ρ n
def BLow (n b : Nat) (k : Blk) : Prop := ∃ ρ hp r, ρ b = some r ∧ BR ρ hp r k ∧ Below ρ n
def DLow (n : Nat) (D : List Dfd) : Prop := ∃ ρ l, DfRs ρ D l ∧ Below ρ n

theorem Below.mono (h : Below ρ n) (hn : n ≤ m) : Below ρ m := fun b hb => h b (Nat.le_trans hn hb)
theorem VLow.mono {v : Value} (h : VLow n v) (hn : n ≤ m) : VLow m v := let ⟨ρ, u, h1, h2⟩ := h; ⟨ρ, u, h1, h2.mono hn⟩
theorem BLow.mono {b : Nat} {k : Blk} (h : BLow n b k) (hn : n ≤ m) : BLow m b k := let ⟨ρ, hp, r, h1, h2, h3⟩ := h; ⟨ρ, hp, r, h1, h2, h3.mono hn⟩
theorem DLow.mono {D : List Dfd} (h : DLow n D) (hn : n ≤ m) : DLow m D := let ⟨ρ, u, h1, h2⟩ := h; ⟨ρ, u, h1, h2.mono hn⟩
theorem VLow.cut {v u : Value} (h : VLow n v) (hv : VR ρ v u) : VR (ρ.upto n) v u := let ⟨_, _, h1, h2⟩ := h; hv.upto h2 h1
theorem BLow.cut {b : Nat} {k : Blk} {hp : Array Obj} {r : Ref} (h : BLow n b k) (hv : BR ρ hp r k) : BR (ρ.upto n) hp r k := let ⟨_, _, _, _, h1, h2⟩ := h; hv.upto h2 h1
theorem BLow.lt {b : Nat} {k : Blk} (h : BLow n b k) : b < n := by
  obtain ⟨ρ, hp, r, h1, _, h2⟩ := h
  rcases Nat.lt_or_ge b n with h3 | h3
  · exact h3
  · rw [h2 b h3] at h1; cases h1
theorem DLow.cut {D : List Dfd} {l : List Deferred} (h : DLow n D) (hv : DfRs ρ D l) : DfRs (ρ.upto n) D l := let ⟨_, _, h1, h2⟩ := h; hv.upto h2 h1
theorem VR.low {v u : Value} (h : VR ρ v u) (hb : Below ρ n) : VLow n v := ⟨ρ, u, h, hb⟩
theorem HR.blow {H : Heap} {nx : Nat} {hp : Array Obj} (h : HR ρ H nx hp) {b : Nat} {k : Blk} (hb : getP H (at_ b) = some k) : BLow nx b k := let ⟨r, h1, h2⟩ := h.blk b k hb; ⟨ρ, hp, r, h1, h2, h.new⟩
theorem VLow.none : VLow n Go.undef := ⟨fun _ => Option.none, Go.undef, VR.undef, fun _ _ => rfl⟩
end Go.Eng
/- The engine: what each kind of operation has to do with the heap. -/
namespace Go.Eng
variable {P : Program} {T : Tr Value} {L : List Value} {H : Heap} {nx : Nat}

def ka0 : KA := fun v H nx => some (.normal, ⟨.n .e (some v) .e, [], H, nx⟩)
theorem ka0_inj {v v' : Value} {H H' : Heap} {nx nx' : Nat} (h : ka0 v H nx = ka0 v' H' nx') : v = v' ∧ H = H' ∧ nx = nx' := by
  unfold ka0 at h
  simp only [Option.some.injEq, Prod.mk.injEq, St.mk.injEq, Tr.n.injEq, true_and, and_true] at h
  exact h

/-- neither the heap nor a call -/
theorem act_pure {a : AOp Od} {v : Value} {H' : Heap} {nx' : Nat} (hk : kdOf a = .pure) (h : ∀ k, actT a P T L H nx k = k v H' nx') : H' = H ∧ nx' = nx ∧ ∀ H2 nx2 k, actT a P T L H2 nx2 k = k v H2 nx2 := by
  have key : ∀ H2 nx2 k, actT a P T L H2 nx2 k = lookT a P T L .e fun v => k v H2 nx2 := by
    cases a <;> first | (cases hk; done) | (intro _ _ _; rfl)
  have h1 := h ka0
  rw [key] at h1
  obtain ⟨x, g1, g2⟩ := lookT_det (P := P) (T := T) (L := L) (H := .e) a _ _ (h1.trans rfl)
  obtain ⟨rfl, rfl, rfl⟩ := ka0_inj (g1.trans rfl)
  exact ⟨rfl, rfl, fun H2 nx2 k => (key H2 nx2 k).trans (g2 _)⟩

theorem act_load {a : AOp Od} {v : Value} {H' : Heap} {nx' : Nat} (hk : kdOf a = .load) (h : ∀ k, actT a P T L H nx k = k v H' nx') : H' = H ∧ nx' = nx ∧ (∀ k, lookT a P T L H k = k v) ∧ ∀ H2 nx2 k, actT a P T L H2 nx2 k = lookT a P T L H2 fun v => k v H2 nx2 := by
  have key : ∀ H2 nx2 k, actT a P T L H2 nx2 k = lookT a P T L H2 fun v => k v H2 nx2 := by
    cases a <;> first | (cases hk; done) | (intro _ _ _; rfl)
  have h1 := h ka0
  rw [key] at h1
  obtain ⟨x, g1, g2⟩ := lookT_det (P := P) (T := T) (L := L) (H := H) a _ _ (h1.trans rfl)
  obtain ⟨rfl, rfl, rfl⟩ := ka0_inj (g1.trans rfl)
  exact ⟨rfl, rfl, g2, key⟩

/-- a make: 'F' is all that it takes of its operands -/
theorem make_split {a : AOp Od} (hk : kdOf a = .make) : ∃ F : (Value → Blk → R0) → R0, DetP (fun _ => True) (fun k : Value × Blk → R0 => F fun v b => k (v, b)) ∧ ∀ H k, actT a P T L H nx k = F fun v b => k v (insP (at_ nx) H (some b)) (nx + 1) := by
  cases a with
  | box x =>
    exact ⟨fun k => evK T L x fun v => k (ptrTo nx) (.cells (cellsOf v)), .ev fun _ => .ret _ trivial, fun H k => by
      show evK T L x (fun v => setP _ _ _ _) = _
      simp only [setP_eq]⟩
  | alc zero => exact ⟨fun k => k (ptrTo nx) (.cells zero), .ret _ trivial, fun H k => setP_eq _ _ _ _⟩
  | mks z bytes zero l c =>
    refine ⟨fun k => evK T L l fun l => onNat l fun l => evK T L c fun c => onNat c fun c => cond (and (Nat.ble l c) (and (Nat.ble (Nat.mul c bytes) small) (and (Nat.ble c small) (Nat.blt 0 z)))) (k (slTo nx z l (Nat.succ (Nat.mul 2 c))) (.cells (repeatN zero c))) none,
      .ev fun _ => .nat fun _ => .ev fun _ => .nat fun _ => .cond (.ret _ trivial) .no, fun H k => ?_⟩
    show evK T L l (fun l => onNat l fun l => evK T L c fun c => onNat c fun c => cond _ (setP _ _ _ _) none) = _
    simp only [setP_eq]
  | bsl z len zero parts =>
    refine ⟨fun k => partsK T L parts fun ps => bd (fillIn (repeatN zero len) ps) fun cs => cond (Nat.blt 0 z) (k (slTo nx z len (Nat.succ (Nat.mul 2 len))) (.cells cs)) none,
      .parts fun _ => .bd fun _ => .cond (.ret _ trivial) .no, fun H k => ?_⟩
    show partsK T L parts (fun ps => bd _ fun cs => cond _ (setP _ _ _ _) none) = _
    simp only [setP_eq]
  | mkm r =>
    refine ⟨fun k => optK T L r 0 fun _ => k (.map (some nx)) (.map [] 0), .opt (d := 0) (F := fun _ k => k (Value.map (some nx), Blk.map [] 0)) fun _ => .ret _ trivial, fun H k => ?_⟩
    show optK T L r 0 (fun _ => setP _ _ _ _) = _
    simp only [setP_eq]
  | _ => cases hk

theorem act_make {a : AOp Od} {v : Value} {H' : Heap} {nx' : Nat} (hk : kdOf a = .make) (h : ∀ k, actT a P T L H nx k = k v H' nx') :
    ∃ blk, H' = insP (at_ nx) H (some blk) ∧ nx' = nx + 1 ∧ ∀ H2 k, actT a P T L H2 nx k = k v (insP (at_ nx) H2 (some blk)) (nx + 1) := by
  obtain ⟨F, hF, key⟩ := make_split (P := P) (T := T) (L := L) (nx := nx) hk
  have h1 := h ka0
  rw [key] at h1
  obtain ⟨x, g1, g2⟩ := hF.det (fun x => ka0 x.1 (insP (at_ nx) H (some x.2)) (nx + 1)) _ (h1.trans rfl)
  obtain ⟨e1, e2, e3⟩ := ka0_inj (g1.trans rfl)
  refine ⟨x.2, e2.symm, e3.symm, fun H2 k => ?_⟩
  rw [key]
  exact (g2 fun x => k x.1 (insP (at_ nx) H2 (some x.2)) (nx + 1)).trans (by rw [e1])

/-- what a load reads -/
def blkOf : Value → Option Nat
  | .pointer (some a) => some a.block
  | .map (some r) => some r
  | _ => none
def loadArg {α : Type} : AOp α → Option α
  | .lod x _ => some x
  | .mln x => some x
  | .lku x _ _ _ _ => some x
  | _ => none

theorem look_load {a : AOp Operand} {f : Operand → Value} {H2 : Heap} (hk : kdOf a = .load) (hs : ∀ x b, loadArg a = some x → blkOf (f x) = some b → getP H2 (at_ b) = getP H (at_ b)) (k : KV) :
    lookT (a.map (Av f)) P T L H2 k = lookT (a.map (Av f)) P T L H k := by
  cases a with
  | lod x agg =>
    have := hs x
    show onPtr (f x) (fun b o => cellsK H2 b _) = onPtr (f x) (fun b o => cellsK H b _)
    unfold onPtr
    split
    · rename_i b o e
      have := hs x b rfl (by rw [e]; rfl)
      show onCells (getP H2 (at_ b)) _ = onCells (getP H (at_ b)) _
      rw [this]
    · rfl
  | mln x =>
    show mlnV H2 (f x) k = mlnV H (f x) k
    unfold mlnV
    split
    · rfl
    · rename_i r e
      rw [hs x r rfl (by rw [e]; rfl)]
    · rfl
  | lku x key kt zero ok =>
    show lkuV P kt zero ok H2 (f key) k (f x) = lkuV P kt zero ok H (f key) k (f x)
    unfold lkuV
    split
    · rfl
    · rename_i r e
      rw [hs x r rfl (by rw [e]; rfl)]
    · rfl
  | _ => cases hk

/-- what stands in a load's other operand -/
theorem load_all {a : AOp Operand} {f : Operand → Value} {v : Value} {p : Operand → Prop} (hk : kdOf a = .load) (h : ∀ k, lookT (a.map (Av f)) P T L H k = k v) (hx : ∀ x, loadArg a = some x → p x) (hf : ∀ x, flat (f x) = true → p x) : a.all p := by
  cases a with
  | lod x agg => exact hx x rfl
  | mln x => exact hx x rfl
  | lku x key kt zero ok =>
    refine ⟨hx x rfl, hf key ?_⟩
    have h1 : lkuV P kt zero ok H (f key) kv0 (f x) = kv0 v := h kv0
    unfold lkuV at h1
    split at h1
    · cases hb : flat (f key) with
      | true => rfl
      | false => rw [hb] at h1; cases h1
    · unfold onMapB at h1
      rename_i r e
      cases hg : getP H (at_ r) with
      | none => rw [hg] at h1; cases h1
      | some b =>
        rw [hg] at h1
        cases b with
        | cells cs => cases h1
        | map es c =>
          have h2 : bd (findAt P es.isEmpty kt (f key) es) (lkuE es zero ok kv0) = kv0 v := h1
          obtain ⟨i, hi, _⟩ := bd_eq (h2.trans rfl)
          unfold findAt at hi
          have := (bif_both hi).1
          simp only [Bool.and_eq_true] at this
          exact this.1
    · cases h1
  | _ => cases hk

theorem veq1_sound {u v : Value} (h : veq1 u v = true) : u = v := by
  unfold veq1 at h
  split at h
  · rename_i a b; cases a <;> cases b <;> first | rfl | cases h
  · simp at h; rw [h.1, h.2]
  · rfl
  · simp at h; rw [h]
  · simp at h; rw [h.1, h.2]
  · simp at h; obtain ⟨⟨h1, h2⟩, h3⟩ := h; rw [h1, h2, h3]
  · rfl
  · rw [Nat.eq_of_beq_eq_true h]
  · cases h

theorem veqs_sound : ∀ {u v : List Value}, veqs u v = true → u = v := by
  intro u
  induction u with
  | nil => intro v h; cases v <;> first | rfl | cases h
  | cons a u ih =>
    intro v h
    cases v with
    | nil => cases h
    | cons b v =>
      have h' : (veq1 a b && veqs u v) = true := h
      rw [Bool.and_eq_true] at h'
      rw [veq1_sound h'.1, ih h'.2]

theorem veq_sound {u v : Value} (h : veq u v = true) : u = v := by
  unfold veq at h
  split at h
  · have := veqs_sound h
    rename_i a b
    cases a; cases b
    simp at this
    rw [this]
  · exact veq1_sound h
end Go.Eng
/- The engine: regions whose order is drawn: what has been done so far, in any order. -/
namespace Go.Eng

structure Cx where
  P : Program
  A : AProg
  rn : Run
  ins : List Nat
  kept : List Nat
  n : Nat
  ops : List Oper
  bef : List Nat
  σ0 : Sig
  D0 : List Dfd
  H0 : Heap
  nx0 : Nat

abbrev Cx.Ok (X : Cx) : List Rec → Rec → Prop := RecOk X.P X.A X.rn X.ins X.kept X.n X.ops X.bef
abbrev Cx.Ch (X : Cx) : List Rec → Prop := Chain X.P X.A X.rn X.ins X.kept X.n X.ops X.bef X.σ0 X.D0 X.H0 X.nx0
abbrev Cx.At (X : Cx) : List Rec → Sig → List Dfd → Heap → Nat → Prop := Eng.At X.σ0 X.D0 X.H0 X.nx0

def Rec.hv (q : Rec) : Prop := isHeavy (kdOf q.a) = true
def Rec.mk' (q : Rec) : Prop := isMake (kdOf q.a) = true
def Rec.ld (q : Rec) : Prop := isLoad (kdOf q.a) = true

variable {X : Cx} {S : Nat → Prop}

theorem chain_split : ∀ {R : List Rec} {q : Rec}, X.Ch R → q ∈ R → ∃ post pre, R = post ++ q :: pre ∧ X.Ok pre q ∧ X.At pre q.σ q.D q.H q.nx ∧ X.Ch pre := by
  intro R
  induction R with
  | nil => intro q _ hq; simp at hq
  | cons r R ih =>
    intro q h hq
    obtain ⟨h1, h2, h3⟩ := h
    rcases List.mem_cons.1 hq with rfl | hq
    · exact ⟨[], R, rfl, h1, h2, h3⟩
    · obtain ⟨post, pre, e, k1, k2, k3⟩ := ih h3 hq
      exact ⟨r :: post, pre, by rw [e]; rfl, k1, k2, k3⟩

theorem chain_tail : ∀ {post pre : List Rec}, X.Ch (post ++ pre) → X.Ch pre := by
  intro post
  induction post with
  | nil => intro pre h; exact h
  | cons q post ih => intro pre h; exact ih h.2.2

theorem chain_post : ∀ {post pre : List Rec} {r : Rec}, X.Ch (post ++ r :: pre) → ∀ q ∈ post, ∃ pq, X.Ok pq q ∧ r ∈ pq ∧ (∀ p ∈ pre, p ∈ pq) ∧ X.At pq q.σ q.D q.H q.nx ∧ X.Ch pq := by
  intro post
  induction post with
  | nil => intro pre r _ q hq; simp at hq
  | cons p post ih =>
    intro pre r h q hq
    rcases List.mem_cons.1 hq with rfl | hq
    · exact ⟨post ++ r :: pre, h.1, by simp, fun p hp => by simp [hp], h.2.1, h.2.2⟩
    · exact ih h.2.2 q hq

theorem chain_uniq : ∀ {R : List Rec}, X.Ch R → ∀ q ∈ R, ∀ q' ∈ R, q.i = q'.i → q = q' := by
  intro R
  induction R with
  | nil => intro _ q hq; simp at hq
  | cons r R ih =>
    intro h q hq q' hq' e
    rcases List.mem_cons.1 hq with e1 | hq1
    · rcases List.mem_cons.1 hq' with e2 | hq2
      · rw [e1, e2]
      · rw [e1] at e; exact absurd e.symm (h.1.new q' hq2)
    · rcases List.mem_cons.1 hq' with e2 | hq2
      · rw [e2] at e; exact absurd e (h.1.new q hq1)
      · exact ih h.2.2 q hq1 q' hq2 e

theorem step_up {A : AProg} {rn : Run} {o : Oper} {b : AOp Od} {g : Option (Nat × Bool)} {T : Tr Value} {L : List Value} {D : List Dfd} {H : Heap} {nx : Nat} {v : Value} {D' : List Dfd} {H' : Heap} {nx' : Nat} (hu : UpRun rn) (h : Step A rn o b g T L D H nx v D' H' nx') : nx ≤ nx' := by
  cases h with
  | alias => exact Nat.le_refl _
  | over => exact Nat.le_refl _
  | did hw _ _ _ _ h _ => exact opT_up' hu h

theorem rec_up (hu : UpRun X.rn) {pre : List Rec} {r : Rec} (h : X.Ok pre r) : r.nx ≤ r.nx' := by
  obtain ⟨env, T, L, b, g, _, _, _, _, hs⟩ := h.step
  exact step_up hu hs

theorem chain_le (hu : UpRun X.rn) : ∀ {pre : List Rec} {σ : Sig} {D : List Dfd} {H : Heap} {nx : Nat}, X.Ch pre → X.At pre σ D H nx → X.nx0 ≤ nx ∧ ∀ q ∈ pre, q.nx' ≤ nx ∧ X.nx0 ≤ q.nx := by
  intro pre
  induction pre with
  | nil => intro σ D H nx _ h; exact ⟨Nat.le_of_eq h.2.2.2.symm, fun q hq => by simp at hq⟩
  | cons r pre ih =>
    intro σ D H nx hc h
    obtain ⟨h1, h2, h3⟩ := hc
    obtain ⟨k1, k2⟩ := ih h3 h2
    have h4 := rec_up hu h1
    have h5 : nx = r.nx' := h.2.2.2
    refine ⟨by omega, fun q hq => ?_⟩
    rcases List.mem_cons.1 hq with rfl | hq
    · exact ⟨Nat.le_of_eq h5.symm, k1⟩
    · have := k2 q hq
      omega

/-- what a slot holds -/
theorem sigma_at : ∀ {pre : List Rec} {σ : Sig} {D : List Dfd} {H : Heap} {nx : Nat}, X.Ch pre → X.At pre σ D H nx → ∀ t, (∃ q ∈ pre, q.o.dst = some t ∧ σ t = q.v) ∨ ((∀ q ∈ pre, q.o.dst ≠ some t) ∧ σ t = X.σ0 t) := by
  intro pre
  induction pre with
  | nil => intro σ D H nx _ h t; exact .inr ⟨fun q hq => by simp at hq, by rw [h.1]⟩
  | cons r pre ih =>
    intro σ D H nx hc h t
    obtain ⟨h1, h2, h3⟩ := hc
    have hσ : σ = r.σ.set r.o.dst r.v := h.1
    by_cases hd : r.o.dst = some t
    · refine .inl ⟨r, List.mem_cons_self, hd, ?_⟩
      rw [hσ, hd]
      show (if t = t then r.v else r.σ t) = r.v
      rw [if_pos rfl]
    · have hσt : σ t = r.σ t := by
        rw [hσ]
        cases hdd : r.o.dst with
        | none => rfl
        | some d =>
          show (if t = d then r.v else r.σ t) = r.σ t
          rw [if_neg (fun e => hd (by rw [hdd, e]))]
      rcases ih h3 h2 t with ⟨q, hq, e1, e2⟩ | ⟨e1, e2⟩
      · exact .inl ⟨q, List.mem_cons_of_mem _ hq, e1, hσt.trans e2⟩
      · refine .inr ⟨fun q hq => ?_, hσt.trans e2⟩
        rcases List.mem_cons.1 hq with rfl | hq
        · exact hd
        · exact e1 q hq

/-! ### the blocks that lie there -/
def Blocks (S : Nat → Prop) (H0 : Heap) : List Rec → Nat → Blk → Prop
  | [], b, k => getP H0 (at_ b) = some k
  | q :: R, b, k => (S q.i ∧ q.hv ∧ getP q.H' (at_ b) = some k) ∨ (S q.i ∧ q.mk' ∧ q.nx < q.nx' ∧ b = q.nx ∧ getP q.H' (at_ b) = some k) ∨ (¬(S q.i ∧ q.hv) ∧ Blocks S H0 R b k)

def Dat (S : Nat → Prop) (D0 : List Dfd) : List Rec → List Dfd → Prop
  | [], D => D = D0
  | q :: R, D => (S q.i ∧ q.hv ∧ D = q.D') ∨ (¬(S q.i ∧ q.hv) ∧ Dat S D0 R D)

theorem blocks_skip {H0 : Heap} {pre : List Rec} {b : Nat} {k : Blk} : ∀ {post : List Rec}, (∀ q ∈ post, ¬(S q.i ∧ q.hv)) → Blocks S H0 pre b k → Blocks S H0 (post ++ pre) b k := by
  intro post
  induction post with
  | nil => intro _ h; exact h
  | cons q post ih => intro hp h; exact .inr (.inr ⟨hp q List.mem_cons_self, ih (fun p hq => hp p (List.mem_cons_of_mem _ hq)) h⟩)

theorem blocks_make {H0 : Heap} {pre : List Rec} {b : Nat} {k : Blk} {m : Rec} : ∀ {post : List Rec}, (∀ q ∈ post, ¬(S q.i ∧ q.hv)) → m ∈ post → S m.i → m.mk' → m.nx < m.nx' → b = m.nx → getP m.H' (at_ b) = some k → Blocks S H0 (post ++ pre) b k := by
  intro post
  induction post with
  | nil => intro _ hm; simp at hm
  | cons q post ih =>
    intro hp hm h1 h2 h3 h4 h5
    rcases List.mem_cons.1 hm with rfl | hm
    · exact .inr (.inl ⟨h1, h2, h3, h4, h5⟩)
    · exact .inr (.inr ⟨hp q List.mem_cons_self, ih (fun p hq => hp p (List.mem_cons_of_mem _ hq)) hm h1 h2 h3 h4 h5⟩)

theorem blocks_inv {H0 : Heap} {pre : List Rec} {b : Nat} {k : Blk} : ∀ {post : List Rec}, (∀ q ∈ post, ¬(S q.i ∧ q.hv)) → Blocks S H0 (post ++ pre) b k →
    Blocks S H0 pre b k ∨ ∃ m ∈ post, S m.i ∧ m.mk' ∧ m.nx < m.nx' ∧ b = m.nx ∧ getP m.H' (at_ b) = some k := by
  intro post
  induction post with
  | nil => intro _ h; exact .inl h
  | cons q post ih =>
    intro hp h
    rcases h with ⟨h1, h2, _⟩ | ⟨h1, h2, h3, h4, h5⟩ | ⟨_, h⟩
    · exact absurd ⟨h1, h2⟩ (hp q List.mem_cons_self)
    · exact .inr ⟨q, List.mem_cons_self, h1, h2, h3, h4, h5⟩
    · rcases ih (fun p hq => hp p (List.mem_cons_of_mem _ hq)) h with h | ⟨m, hm, g⟩
      · exact .inl h
      · exact .inr ⟨m, List.mem_cons_of_mem _ hm, g⟩

/-- one operation more, that neither makes nor is heavy -/
theorem blocks_quiet {H0 : Heap} {S' : Nat → Prop} {b : Nat} {k : Blk} : ∀ {R : List Rec}, (∀ q ∈ R, (q.hv ∨ q.mk' ∧ q.nx < q.nx') → (S' q.i ↔ S q.i)) → Blocks S' H0 R b k → Blocks S H0 R b k := by
  intro R
  induction R with
  | nil => intro _ h; exact h
  | cons q R ih =>
    intro hp h
    have hq := hp q List.mem_cons_self
    rcases h with ⟨h1, h2, h3⟩ | ⟨h1, h2, h3, h4, h5⟩ | ⟨h1, h⟩
    · exact .inl ⟨(hq (.inl h2)).1 h1, h2, h3⟩
    · exact .inr (.inl ⟨(hq (.inr ⟨h2, h3⟩)).1 h1, h2, h3, h4, h5⟩)
    · refine .inr (.inr ⟨fun ⟨g1, g2⟩ => h1 ⟨(hq (.inl g2)).2 g1, g2⟩, ih (fun p hm => hp p (List.mem_cons_of_mem _ hm)) h⟩)

/-- one make more -/
theorem blocks_more {H0 : Heap} {S' : Nat → Prop} {b : Nat} {k : Blk} {r : Rec} (hr : r.mk') (hs : ∀ i, S' i ↔ S i ∨ i = r.i) : ∀ {R : List Rec}, (∀ q ∈ R, q.i = r.i → q = r) → Blocks S' H0 R b k →
    Blocks S H0 R b k ∨ (r.nx < r.nx' ∧ b = r.nx ∧ getP r.H' (at_ b) = some k) := by
  have hnh : ¬ r.hv := by
    intro hh
    unfold Rec.hv at hh
    unfold Rec.mk' at hr
    cases hk : kdOf r.a <;> rw [hk] at hh hr <;> simp [isHeavy, isMake] at hh hr
  intro R
  induction R with
  | nil => intro _ h; exact .inl h
  | cons q R ih =>
    intro hu h
    have hq : ∀ _ : q.hv, (S' q.i ↔ S q.i) := by
      intro hv
      rw [hs]
      refine ⟨fun h => h.elim id fun e => ?_, .inl⟩
      have := hu q List.mem_cons_self e
      subst this
      exact absurd hv hnh
    rcases h with ⟨h1, h2, h3⟩ | ⟨h1, h2, h3, h4, h5⟩ | ⟨h1, h⟩
    · exact .inl (.inl ⟨(hq h2).1 h1, h2, h3⟩)
    · rcases (hs q.i).1 h1 with h1 | e
      · exact .inl (.inr (.inl ⟨h1, h2, h3, h4, h5⟩))
      · have := hu q List.mem_cons_self e
        subst this
        exact .inr ⟨h3, h4, h5⟩
    · rcases ih (fun p hm => hu p (List.mem_cons_of_mem _ hm)) h with h | h
      · exact .inl (.inr (.inr ⟨fun ⟨g1, g2⟩ => h1 ⟨(hq g2).2 g1, g2⟩, h⟩))
      · exact .inr h

theorem dat_skip {D0 : List Dfd} {pre : List Rec} {D : List Dfd} : ∀ {post : List Rec}, (∀ q ∈ post, ¬(S q.i ∧ q.hv)) → (Dat S D0 (post ++ pre) D ↔ Dat S D0 pre D) := by
  intro post
  induction post with
  | nil => intro _; exact Iff.rfl
  | cons q post ih =>
    intro hp
    have h1 := ih fun p hq => hp p (List.mem_cons_of_mem _ hq)
    have h2 := hp q List.mem_cons_self
    constructor
    · rintro (⟨g1, g2, _⟩ | ⟨_, g⟩)
      · exact absurd ⟨g1, g2⟩ h2
      · exact h1.1 g
    · intro h
      exact .inr ⟨h2, h1.2 h⟩

theorem dat_quiet {D0 : List Dfd} {S' : Nat → Prop} {D : List Dfd} : ∀ {R : List Rec}, (∀ q ∈ R, q.hv → (S' q.i ↔ S q.i)) → Dat S D0 R D → Dat S' D0 R D := by
  intro R
  induction R with
  | nil => intro _ h; exact h
  | cons q R ih =>
    intro hp h
    have hq := hp q List.mem_cons_self
    rcases h with ⟨h1, h2, h3⟩ | ⟨h1, h⟩
    · exact .inl ⟨(hq h2).2 h1, h2, h3⟩
    · exact .inr ⟨fun ⟨g1, g2⟩ => h1 ⟨(hq g2).1 g1, g2⟩, ih (fun p hm => hp p (List.mem_cons_of_mem _ hm)) h⟩
theorem dat_uniq {D0 : List Dfd} {D D' : List Dfd} : ∀ {R : List Rec}, Dat S D0 R D → Dat S D0 R D' → D = D' := by
  intro R
  induction R with
  | nil => intro h h'; exact h.trans h'.symm
  | cons q R ih =>
    intro h h'
    rcases h with ⟨h1, h2, h3⟩ | ⟨h1, h⟩
    · rcases h' with ⟨_, _, h3'⟩ | ⟨h1', _⟩
      · exact h3.trans h3'.symm
      · exact absurd ⟨h1, h2⟩ h1'
    · rcases h' with ⟨g1, g2, _⟩ | ⟨_, h'⟩
      · exact absurd ⟨g1, g2⟩ h1
      · exact ih h h'
end Go.Eng
/- The engine: regions whose order is drawn: the blocks, as they were written down. -/
namespace Go.Eng
variable {X : Cx} {S : Nat → Prop} {A : AProg} {rn : Run} {T : Tr Value} {L : List Value} {D : List Dfd} {H : Heap} {nx : Nat}

theorem plain_of_kd {α : Type} {a : AOp α} (h : ¬ isHeavy (kdOf a) = true) : a.plain = true := by
  cases a <;> first | rfl | (exact absurd rfl h)

theorem did_act {b : AOp Od} {v : Value} {D' : List Dfd} {H' : Heap} {nx' : Nat} (hp : b.plain = true) (h : ∀ p ag k, opT b A rn p ag k b T L D H nx = contO A.P p ag k T L D' v H' nx') : ∀ k, actT b A.P T L H nx k = k v H' nx' := by
  have h1 := h none [] krec
  rw [opT_plain hp] at h1
  obtain ⟨r0, hr0⟩ : ∃ r0, contO A.P none [] krec T L D' v H' nx' = some r0 := ⟨_, contO_nil.trans rfl⟩
  have h2 : actT b A.P T L H nx (uk fun x => contO A.P none [] krec T L D x.1 x.2.1 x.2.2) = some r0 := h1.trans hr0
  obtain ⟨x, g1, g2⟩ := actT_det b _ _ h2
  obtain ⟨e1, _, e2, e3⟩ := krec_inj (g1.trans hr0.symm)
  intro k
  rw [← e1, ← e2, ← e3]
  exact g2 fun x => k x.1 x.2.1 x.2.2

theorem rec_make {pre : List Rec} {r : Rec} (h : X.Ok pre r) (hm : r.mk') (hlt : r.nx < r.nx') : ∃ blk, r.H' = insP (at_ r.nx) r.H (some blk) ∧ r.nx' = r.nx + 1 := by
  obtain ⟨env, T, L, b, g, ht, _, _, _, hs⟩ := h.step
  have hk : kdOf b = .make := by
    have h1 : isMake (kdOf r.a) = true := hm
    rw [kdOf_trav (.loc 0) ht]
    cases hk : kdOf r.a <;> rw [hk] at h1 <;> first | rfl | simp [isMake] at h1
  generalize r.v = v at hs
  generalize r.D' = D' at hs
  generalize hH : r.H' = H' at hs
  generalize hn : r.nx' = nx' at hs hlt
  cases hs with
  | alias => omega
  | over => omega
  | did hw _ _ _ _ hd _ =>
    obtain ⟨blk, e1, e2, _⟩ := act_make hk (did_act (plain_of_kd (by rw [hk]; simp [isHeavy])) hd)
    exact ⟨blk, e1, e2⟩

theorem rec_same {pre : List Rec} {r : Rec} (h : X.Ok pre r) (hh : ¬ r.hv) : r.D' = r.D ∧ (¬(r.mk' ∧ r.nx < r.nx') → r.H' = r.H ∧ r.nx' = r.nx) := by
  obtain ⟨env, T, L, b, g, ht, _, _, _, hs⟩ := h.step
  have hkb : kdOf b = kdOf r.a := kdOf_trav (.loc 0) ht
  unfold Rec.hv at hh
  unfold Rec.mk'
  generalize r.v = v at hs
  generalize hD : r.D' = D' at hs
  generalize hH : r.H' = H' at hs
  generalize hn : r.nx' = nx' at hs
  cases hs with
  | alias => exact ⟨rfl, fun _ => ⟨rfl, rfl⟩⟩
  | over => exact ⟨rfl, fun _ => ⟨rfl, rfl⟩⟩
  | did hw _ _ _ _ hd hD =>
    have hp : b.plain = true := plain_of_kd (by rw [hkb]; exact hh)
    have hact := did_act hp hd
    refine ⟨hD hp, fun hn => ?_⟩
    cases hk : kdOf r.a with
    | pure =>
      obtain ⟨e1, e2, _⟩ := act_pure (hkb.trans hk) hact
      exact ⟨e1, e2⟩
    | load =>
      obtain ⟨e1, e2, _⟩ := act_load (hkb.trans hk) hact
      exact ⟨e1, e2⟩
    | make =>
      obtain ⟨blk, e1, e2, _⟩ := act_make (hkb.trans hk) hact
      exfalso
      apply hn
      rw [hk]
      exact ⟨rfl, by omega⟩
    | heavy => rw [hk] at hh; exact absurd rfl hh

/-- what the engine's heap holds is there -/
theorem heap_blocks : ∀ {pre : List Rec} {σ : Sig} {D : List Dfd} {H : Heap} {nx : Nat}, X.Ch pre → X.At pre σ D H nx → ∀ {b : Nat} {k : Blk}, (∀ q ∈ pre, q.hv → S q.i) → (∀ q ∈ pre, q.mk' → q.nx < q.nx' → q.nx = b → S q.i) →
    getP H (at_ b) = some k → Blocks S X.H0 pre b k := by
  intro pre
  induction pre with
  | nil => intro σ D H nx _ h b k _ _ hb; rw [h.2.2.1] at hb; exact hb
  | cons r pre ih =>
    intro σ D H nx hc h b k hh hm hb
    obtain ⟨h1, h2, h3⟩ := hc
    have hH : H = r.H' := h.2.2.1
    rw [hH] at hb
    have ih' := fun hb => ih h3 h2 (b := b) (k := k) (fun q hq => hh q (List.mem_cons_of_mem _ hq)) (fun q hq => hm q (List.mem_cons_of_mem _ hq)) hb
    by_cases hhv : r.hv
    · exact .inl ⟨hh r List.mem_cons_self hhv, hhv, hb⟩
    · by_cases hmk : r.mk' ∧ r.nx < r.nx'
      · obtain ⟨blk, e1, e2⟩ := rec_make h1 hmk.1 hmk.2
        by_cases e : b = r.nx
        · exact .inr (.inl ⟨hm r List.mem_cons_self hmk.1 hmk.2 e.symm, hmk.1, hmk.2, e, hb⟩)
        · refine .inr (.inr ⟨fun g => hhv g.2, ih' ?_⟩)
          rw [e1, getP_insP_ne _ _ _ _ (fun e' => e (at_inj e'))] at hb
          exact hb
      · refine .inr (.inr ⟨fun g => hhv g.2, ih' ?_⟩)
        rw [((rec_same h1 hhv).2 hmk).1] at hb
        exact hb

theorem dat_at : ∀ {pre : List Rec} {σ : Sig} {D : List Dfd} {H : Heap} {nx : Nat}, X.Ch pre → X.At pre σ D H nx → (∀ q ∈ pre, q.hv → S q.i) → Dat S X.D0 pre D := by
  intro pre
  induction pre with
  | nil => intro σ D H nx _ h _; exact h.2.1
  | cons r pre ih =>
    intro σ D H nx hc h hh
    obtain ⟨h1, h2, h3⟩ := hc
    have hD : D = r.D' := h.2.1
    by_cases hhv : r.hv
    · exact .inl ⟨hh r List.mem_cons_self hhv, hhv, hD⟩
    · refine .inr ⟨fun g => hhv g.2, ?_⟩
      rw [hD, (rec_same h1 hhv).1]
      exact ih h3 h2 fun q hq => hh q (List.mem_cons_of_mem _ hq)

/-- what holds when the operations of 'S' have been done -/
structure SInv (X : Cx) (R : List Rec) (ρ0 : Rho) (w0 : World) (S : Nat → Prop) (ρ : Rho) (c : Act) (w : World) : Prop where
  dom : ∀ b r, ρ b = some r → b < X.nx0 ∨ ∃ q ∈ R, S q.i ∧ q.nx ≤ b ∧ b < q.nx'
  size : X.n ≤ c.tmps.size
  val : ∀ q ∈ R, S q.i → ∀ t, q.o.dst = some t → VR ρ q.v (c.tmps.getD t undef)
  vlow : ∀ q ∈ R, S q.i → VLow q.nx' q.v
  kep : ∀ t, isIn X.kept t = true → (∀ q ∈ R, S q.i → q.o.dst ≠ some t) → VR ρ (X.σ0 t) (c.tmps.getD t undef)
  blk : ∀ b k, Blocks S X.H0 R b k → ∃ r, ρ b = some r ∧ BR ρ w.heap r k
  inj : ∀ b b' k k' r r', Blocks S X.H0 R b k → Blocks S X.H0 R b' k' → ρ b = some r → ρ b' = some r' → r.blk = r'.blk → b = b'
  hlow : ∀ q ∈ R, S q.i → q.hv → ∀ b k, getP q.H' (at_ b) = some k → BLow q.nx' b k
  mlow : ∀ q ∈ R, S q.i → q.mk' → q.nx < q.nx' → ∀ k, getP q.H' (at_ q.nx) = some k → BLow q.nx' q.nx k
  dfr : ∃ D, Dat S X.D0 R D ∧ DfRs ρ D c.defers
  dlow : ∀ q ∈ R, S q.i → q.hv → DLow q.nx' q.D'
  ext : Ext ρ0 ρ
  low : ∀ b, b < X.nx0 → ρ b = ρ0 b
  own : ∀ b k r, Blocks S X.H0 R b k → ρ b = some r → Own ρ0 X.H0 r.blk ∨ w0.heap.size ≤ r.blk
  frame : ∀ k, k < w0.heap.size → ¬ Own ρ0 X.H0 k → w.heap[k]? = w0.heap[k]?
  wsize : w0.heap.size ≤ w.heap.size
  os : w.os = w0.os
  tape : w.tape = w0.tape
  output : w.output = w0.output

/-- how it began -/
structure Start (X : Cx) (ρ0 : Rho) (w0 : World) : Prop where
  hr : HR ρ0 X.H0 X.nx0 w0.heap
  klow : ∀ t, isIn X.kept t = true → VLow X.nx0 (X.σ0 t)
  dlow : DLow X.nx0 X.D0
  up : UpRun X.rn
  eq : X.A.P = X.P

theorem blocks_low {R : List Rec} {ρ0 ρ : Rho} {w0 w : World} {c : Act} (hst : Start X ρ0 w0) (inv : SInv X R ρ0 w0 S ρ c w) {b : Nat} {k : Blk} {m : Nat} : ∀ {pre : List Rec}, (∀ q ∈ pre, q ∈ R) → X.nx0 ≤ m → (∀ q ∈ pre, q.nx' ≤ m) → Blocks S X.H0 pre b k → BLow m b k := by
  intro pre
  induction pre with
  | nil => intro _ h0 _ h; exact (hst.hr.blow h).mono h0
  | cons q pre ih =>
    intro hR h0 hm h
    rcases h with ⟨h1, h2, h3⟩ | ⟨h1, h2, h3, h4, h5⟩ | ⟨_, h⟩
    · exact (inv.hlow q (hR q List.mem_cons_self) h1 h2 b k h3).mono (hm q List.mem_cons_self)
    · subst h4
      exact (inv.mlow q (hR q List.mem_cons_self) h1 h2 h3 k h5).mono (hm q List.mem_cons_self)
    · exact ih (fun p hp => hR p (List.mem_cons_of_mem _ hp)) h0 (fun p hp => hm p (List.mem_cons_of_mem _ hp)) h
end Go.Eng
/- The engine: regions whose order is drawn: what an operation reads. -/
namespace Go.Eng

theorem travL_congr {α β : Type} {c c' : α → Option β} : ∀ {l : List α}, (∀ x ∈ l, c x = c' x) → travL c l = travL c' l := by
  intro l
  induction l with
  | nil => intro _; rfl
  | cons x l ih =>
    intro h
    unfold travL
    rw [h x List.mem_cons_self, ih fun y hy => h y (List.mem_cons_of_mem _ hy)]
theorem travP_congr {α β : Type} {c c' : α → Option β} : ∀ {l : List (Nat × Nat × α)}, (∀ x ∈ l, c x.2.2 = c' x.2.2) → travP c l = travP c' l := by
  intro l
  induction l with
  | nil => intro _; rfl
  | cons x l ih =>
    obtain ⟨i, j, x⟩ := x
    intro h
    unfold travP
    have := h (i, j, x) List.mem_cons_self
    simp only at this
    rw [this, ih fun y hy => h y (List.mem_cons_of_mem _ hy)]
theorem travO_congr {α β : Type} {c c' : α → Option β} {o : Option α} (h : ∀ x ∈ o, c x = c' x) : travO c o = travO c' o := by
  cases o with
  | none => rfl
  | some x => show (c x).map some = (c' x).map some; rw [h x rfl]

theorem trav_congr {α β : Type} {c c' : α → Option β} {a : AOp α} (h : a.all fun x => c x = c' x) : a.trav c = a.trav c' := by
  cases a <;> simp only [AOp.all] at h <;> simp only [AOp.trav] <;> first
    | rfl
    | rw [h]
    | rw [h.1, h.2]
    | rw [h.1, h.2.1, h.2.2]
    | rw [travL_congr h]
    | rw [travP_congr h]
    | rw [travO_congr h]
    | rw [h.1, travL_congr h.2]
    | rw [travL_congr h.1, travL_congr h.2]
    | rw [h.1, travO_congr h.2.1, travO_congr h.2.2]
    | rw [h.1, travO_congr h.2.1, travO_congr h.2.2.1, travO_congr h.2.2.2]

theorem isIn_mem {l : List Nat} {t : Nat} : isIn l t = true ↔ t ∈ l := by
  unfold isIn
  rw [List.any_eq_true]
  constructor
  · rintro ⟨x, hx, e⟩
    have := Nat.eq_of_beq_eq_true e
    subst this
    exact hx
  · intro h
    exact ⟨t, h, Nat.beq_refl t⟩

theorem isIn_filter {l : List Nat} {p : Nat → Bool} {t : Nat} (h : p t = true) : isIn (l.filter p) t = isIn l t := by
  have : isIn (l.filter p) t = true ↔ isIn l t = true := by rw [isIn_mem, isIn_mem, List.mem_filter]; simp [h]
  cases h1 : isIn (l.filter p) t <;> cases h2 : isIn l t <;> first | rfl | (rw [h1, h2] at this; simp at this)

theorem find_filter {p : Nat → Bool} {t : Nat} (h : p t = true) : ∀ {env : Env}, find (env.filter fun x => p x.1) t = find env t := by
  intro env
  induction env with
  | nil => rfl
  | cons y env ih =>
    obtain ⟨u, x⟩ := y
    rw [List.filter_cons]
    by_cases hu : p u = true
    · simp only [hu, if_true]
      show (bif Nat.beq u t then some x else find (env.filter fun x => p x.1) t) = (bif Nat.beq u t then some x else find env t)
      rw [ih]
    · simp only [hu, Bool.false_eq_true, if_false]
      rw [ih]
      show find env t = (bif Nat.beq u t then some x else find env t)
      cases hb : Nat.beq u t with
      | false => rfl
      | true =>
        have := Nat.eq_of_beq_eq_true hb
        subst this
        exact absurd h hu

theorem hyg_at {ops : List Oper} {bef : List Nat} {j t i : Nat} {o q : Oper} (h : hygienic ops bef j o = true) (ht : t ∈ tmpsOf o) (hq : ops[i]? = some q) (hd : q.dst = some t) : bit bef j i = true ∨ bit bef i j = true := by
  unfold hygienic at h
  have h1 := List.all_eq_true.1 h t ht
  have h2 := List.all_eq_true.1 h1 (q, i) (List.mem_zipIdx_iff_getElem?.2 hq)
  simp only [hd] at h2
  simp only [Nat.beq_refl, Bool.not_true, Bool.false_or, Bool.or_eq_true] at h2
  exact h2

theorem still_at {ops : List Oper} {bef : List Nat} {done j t i : Nat} {o q : Oper} (h : readsStill ops bef done j o = true) (ht : t ∈ tmpsOf o) (hq : ops[i]? = some q) (hd : q.dst = some t) : bit bef j i = true ∨ Nat.testBit done i = false := by
  unfold readsStill at h
  have h1 := List.all_eq_true.1 h t ht
  have h2 := List.all_eq_true.1 h1 (q, i) (List.mem_zipIdx_iff_getElem?.2 hq)
  simp only [hd] at h2
  simp only [Nat.beq_refl, Bool.not_true, Bool.false_or, Bool.or_eq_true, Bool.not_eq_true'] at h2
  exact h2

theorem one_at {ops : List Oper} {i j t : Nat} {o q : Oper} (h : oneDst ops = true) (ho : ops[i]? = some o) (hq : ops[j]? = some q) (hd : o.dst = some t) (hd' : q.dst = some t) : i = j := by
  unfold oneDst at h
  have h1 := List.all_eq_true.1 h (o, i) (List.mem_zipIdx_iff_getElem?.2 ho)
  have h2 := List.all_eq_true.1 h1 (q, j) (List.mem_zipIdx_iff_getElem?.2 hq)
  simp only [hd, hd'] at h2
  simp only [Nat.beq_refl, Bool.not_true, Bool.or_false] at h2
  exact Nat.eq_of_beq_eq_true h2

variable {X : Cx} {S : Nat → Prop} {R post pre : List Rec} {r : Rec} {ρ0 ρ : Rho} {w0 w : World} {c : Act}

/-- an operation that may be done next -/
structure Next (X : Cx) (R : List Rec) (S : Nat → Prop) (post pre : List Rec) (r : Rec) : Prop where
  eq : R = post ++ r :: pre
  ch : X.Ch R
  one : oneDst X.ops = true
  not : ¬ S r.i
  cl : ∀ q ∈ R, S q.i → ∀ j, bit X.bef q.i j = true → S j
  rd : ∀ j, bit X.bef r.i j = true → S j

theorem Next.mem (h : Next X R S post pre r) : r ∈ R := by rw [h.eq]; simp
theorem Next.sub (h : Next X R S post pre r) : ∀ q ∈ pre, q ∈ R := fun q hq => by rw [h.eq]; simp [hq]
theorem Next.subp (h : Next X R S post pre r) : ∀ q ∈ post, q ∈ R := fun q hq => by rw [h.eq]; simp [hq]
theorem Next.tail (h : Next X R S post pre r) : X.Ch (r :: pre) := by
  have := h.ch
  rw [h.eq] at this
  exact chain_tail this
theorem Next.ok (h : Next X R S post pre r) : X.Ok pre r := h.tail.1
theorem Next.at (h : Next X R S post pre r) : X.At pre r.σ r.D r.H r.nx := h.tail.2.1
theorem Next.chp (h : Next X R S post pre r) : X.Ch pre := h.tail.2.2

/-- a slot that is written ahead -/
theorem reads_pre (hst : Start X ρ0 w0) (inv : SInv X R ρ0 w0 S ρ c w) (h : Next X R S post pre r) {t : Nat} {q : Rec} (hq : q ∈ pre) (hd : q.o.dst = some t) (hS : S q.i) : VR ρ (r.σ t) (c.tmps.getD t undef) ∧ VLow r.nx (r.σ t) := by
  rcases sigma_at h.chp h.at t with ⟨q', hq', e1, e2⟩ | ⟨e1, _⟩
  · have hi : q'.i = q.i := by
      obtain ⟨_, _, _, k1, _⟩ := chain_split h.chp hq
      obtain ⟨_, _, _, k2, _⟩ := chain_split h.chp hq'
      exact one_at h.one k2.op k1.op e1 hd
    have := chain_uniq h.chp q' hq' q hq hi
    subst this
    rw [e2]
    exact ⟨inv.val q' (h.sub _ hq) hS t hd, (inv.vlow q' (h.sub _ hq) hS).mono ((chain_le hst.up h.chp h.at).2 q' hq).1⟩
  · exact absurd hd (e1 q hq)

theorem reads_tmp (hst : Start X ρ0 w0) (inv : SInv X R ρ0 w0 S ρ c w) (h : Next X R S post pre r) {t : Nat} (ht : t ∈ tmpsOf r.o) (hk : (∃ q ∈ pre, q.o.dst = some t) ∨ isIn X.kept t = true) : VR ρ (r.σ t) (c.tmps.getD t undef) ∧ VLow r.nx (r.σ t) := by
  by_cases hp : ∃ q ∈ pre, q.o.dst = some t
  · obtain ⟨q, hq, hd⟩ := hp
    obtain ⟨p1, p2, e, k1, _⟩ := chain_split h.chp hq
    rcases hyg_at h.ok.hyg ht k1.op hd with hb | hb
    · exact reads_pre hst inv h hq hd (h.rd _ hb)
    · obtain ⟨p, hp, hi⟩ := k1.befs _ hb
      exact absurd hi (h.ok.new p (by rw [e]; simp [hp]))
  · have hk' : isIn X.kept t = true := hk.resolve_left hp
    rcases sigma_at h.chp h.at t with ⟨q', hq', e1, _⟩ | ⟨_, e2⟩
    · exact absurd ⟨q', hq', e1⟩ hp
    · rw [e2]
      refine ⟨inv.kep t hk' fun q hq hS hd => ?_, (hst.klow t hk').mono (chain_le hst.up h.chp h.at).1⟩
      have hq' := hq
      rw [h.eq] at hq'
      rcases List.mem_append.1 hq' with hq1 | hq1
      · have hch := h.ch
        rw [h.eq] at hch
        obtain ⟨pq, k1, k2, k3, _⟩ := chain_post hch q hq1
        rcases hyg_at h.ok.hyg ht k1.op hd with hb | hb
        · obtain ⟨p, hp1, hi⟩ := h.ok.befs _ hb
          exact absurd hi (k1.new p (k3 p hp1))
        · exact h.not (h.cl q hq hS _ hb)
      · rcases List.mem_cons.1 hq1 with rfl | hq2
        · exact h.not hS
        · exact hp ⟨q, hq2, hd⟩

/-- the operands, as the machine has them -/
theorem reads_all (hst : Start X ρ0 w0) (inv : SInv X R ρ0 w0 S ρ c w) (h : Next X R S post pre r) : r.a.all fun x => VR ρ (evS r.σ x) (c.eval x) ∧ VLow r.nx (evS r.σ x) := by
  obtain ⟨env, T, L, b, g, ht, hg, hE, hdom, hs⟩ := h.ok.step
  obtain ⟨_, h2⟩ := trav_sound (.loc 0) ht
  have h3 := comp_operands h.ok.comp
  have h4 : r.a.all fun x => (∃ y, cv X.kept X.n env x = some y) ∧ x ∈ r.o.op.operands.toList := by
    revert h2 h3
    generalize r.a = a
    intro h2 h3
    cases a <;> simp only [AOp.all] at h2 h3 ⊢ <;> grind
  refine all_mono (fun x hx => ?_) h4
  obtain ⟨⟨y, hy⟩, hm⟩ := hx
  cases x with
  | tmp t =>
    refine reads_tmp hst inv h ?_ ?_
    · exact List.mem_filterMap.2 ⟨_, hm, rfl⟩
    · simp only [cv] at hy
      have hy1 := (bif_both hy).2
      cases hf : find env t with
      | some z => exact .inl (hdom t z (find_mem hf))
      | none =>
        rw [hf] at hy1
        exact .inr (bif_both hy1).1
  | const v =>
    simp only [cv] at hy
    have hk := (bif_both hy).1
    exact ⟨.of_const hk, ⟨fun _ => none, v, .of_const hk, fun _ _ => rfl⟩⟩
  | func f => exact ⟨.func .nil .nil, ⟨fun _ => none, _, .func .nil .nil, fun _ _ => rfl⟩⟩
  | global g => cases hy
end Go.Eng
