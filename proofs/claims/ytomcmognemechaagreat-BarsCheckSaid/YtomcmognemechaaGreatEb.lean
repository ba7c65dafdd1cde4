/- An interpreter of the model's code that follows one order and is proved right for all: part 2. -/
import Derived.Test.YtomcmognemechaaGreatEa
import Derived.Laws.CopyRow
import Derived.Laws.AppendOwn
import Derived.LoopN
/- The engine: every operation that reads at most. -/
namespace Go.Eng
variable {P : Program} {w : World} {ρ : Rho} {H : Heap} {nx : Nat} {r : Ex × St} {T : Tr Value} {L : List Value} {ρa ρc : Operand → Value} {o : Oper} {k : KA} {ins : List Nat}

theorem Good.same {s : Sem Next} {v u : Value} (hH : HR ρ H nx w.heap) (hv : VR ρ v u) (hk : k v H nx = some r) (hs : s.run P w = .ok (.value u) w) : Good P w ρ H nx r k s :=
  ⟨v, H, nx, u, w, ρ, hk, .inl hs, hv, hH, .refl ρ H w, Nat.le_refl _, fun _ _ => rfl⟩

theorem move_sound {x : Operand} {a : AOp Operand} (ho : o.op = .move x ∨ o.op = .assign x) (hc : compileOp P ins o = some a) (ha : a.all fun x => VR ρ (ρa x) (ρc x)) (hH : HR ρ H nx w.heap)
    (h : actT (a.map (Av ρa)) P T L H nx k = some r) : Good P w ρ H nx r k (execOp ρc o) := by
  have he : execOp ρc o = pure (.value (ρc x)) := by rcases ho with ho | ho <;> simp only [execOp, ho]
  have hc' : a = .mov x := by rcases ho with ho | ho <;> (simp only [compileOp, ho] at hc; cases hc; rfl)
  subst hc'
  rw [he]
  exact .same hH ha h rfl

theorem pick_sound {c x y : Operand} {a : AOp Operand} (ho : o.op = .pick c x y) (hc : compileOp P ins o = some a) (ha : a.all fun x => VR ρ (ρa x) (ρc x)) (hH : HR ρ H nx w.heap)
    (h : actT (a.map (Av ρa)) P T L H nx k = some r) : Good P w ρ H nx r k (execOp ρc o) := by
  have he : execOp ρc o = (do pure (.value (if ← asBool (ρc c) then ρc x else ρc y))) := by simp only [execOp, ho]
  simp only [compileOp, ho] at hc
  cases hc
  obtain ⟨h1, h2, h3⟩ := ha
  have h' : onBool (ρa c) (k (ρa x) H nx) (k (ρa y) H nx) = some r := h
  rw [he]
  rcases onBool_some h' with ⟨e, hk⟩ | ⟨e, hk⟩
  · rw [e] at h1
    refine .same hH h2 hk ?_
    rw [h1.bool_inv]
    rfl
  · rw [e] at h1
    refine .same hH h3 hk ?_
    rw [h1.bool_inv]
    rfl

theorem load_sound' {t : TypeId} {x : Operand} {a : AOp Operand} (ho : o.op = .load t x) (hc : compileOp P ins o = some a) (ha : a.all fun x => VR ρ (ρa x) (ρc x)) (hH : HR ρ H nx w.heap)
    (h : actT (a.map (Av ρa)) P T L H nx k = some r) : Good P w ρ H nx r k (execOp ρc o) := by
  have he : execOp ρc o = (do pure (.value (← Instr.loadAt t (ρc x)))) := by simp only [execOp, ho]
  simp only [compileOp, ho, Option.map_eq_some_iff] at hc
  obtain ⟨g, hg, rfl⟩ := hc
  exact .look he hH (lod_sound hg hH ha h)

theorem nilCheck_sound {x : Operand} {a : AOp Operand} (ho : o.op = .nilCheck x) (hc : compileOp P ins o = some a) (ha : a.all fun x => VR ρ (ρa x) (ρc x)) (hH : HR ρ H nx w.heap)
    (h : actT (a.map (Av ρa)) P T L H nx k = some r) : Good P w ρ H nx r k (execOp ρc o) := by
  simp only [compileOp, ho] at hc
  cases hc
  obtain ⟨v, u, h1, h2, h3⟩ := nilck_sound (P := P) (w := w) ha (show nilckV (ρa x) (fun v => k v H nx) = some r from h)
  refine .same hH h3 h1 ?_
  simp only [execOp, ho]
  exact h2

theorem binOp_sound {op : BinOp} {t : TypeId} {x y : Operand} {b : Bool} {a : AOp Operand} (ho : ∃ q, o.op = .binOp op t x y q) (hc : compileOp P ins o = some a) (ha : a.all fun x => VR ρ (ρa x) (ρc x)) (hH : HR ρ H nx w.heap)
    (h : actT (a.map (Av ρa)) P T L H nx k = some r) : Good P w ρ H nx r k (execOp ρc o) := by
  obtain ⟨q, ho⟩ := ho
  have he : execOp ρc o = (do pure (.value (← (do eqGuard op t x y (ρc x) (ρc y); binOp op t (ρc x) (ρc y) : Sem Value)))) := by simp only [execOp, ho]
  simp only [compileOp, ho] at hc
  have bin : a = .bin op t x y → Good P w ρ H nx r k (execOp ρc o) := by
    intro e
    subst e
    exact .look he hH (bin_sound ha.1 ha.2 h)
  have isn : ∀ (d : TypeDesc) (kd : Nat), (op = .eql ∨ op = .neq) → P.underlying t = some d → kdFits kd d = true → (kd = 4 → (isConstOp x || isConstOp y) = true) → a = .isnil (isNeq op) kd x y → Good P w ρ H nx r k (execOp ρc o) := by
    intro d kd h1 h2 h3 h4 e
    subst e
    exact .look he hH (isnil_sound h1 h2 h3 h4 ha.1 ha.2 h)
  have eqs : (op = .eql ∨ op = .neq) → Good P w ρ H nx r k (execOp ρc o) := by
    intro hop
    have hc' : (match P.underlying t with
      | some (.pointer _) => some (.isnil (isNeq op) 0 x y)
      | some (.slice _) => some (.isnil (isNeq op) 1 x y)
      | some (.map _ _) => some (.isnil (isNeq op) 2 x y)
      | some (.func _ _ _) => some (.isnil (isNeq op) 3 x y)
      | some (.interface _) => bif isConstOp x || isConstOp y then some (.isnil (isNeq op) 4 x y) else none
      | some _ => some (.bin op t x y)
      | none => none : Option (AOp Operand)) = some a := by
      rcases hop with rfl | rfl <;> exact hc
    split at hc'
    · rename_i hu; cases hc'; exact isn _ 0 hop hu rfl (fun h => by cases h) rfl
    · rename_i hu; cases hc'; exact isn _ 1 hop hu rfl (fun h => by cases h) rfl
    · rename_i hu; cases hc'; exact isn _ 2 hop hu rfl (fun h => by cases h) rfl
    · rename_i hu; cases hc'; exact isn _ 3 hop hu rfl (fun h => by cases h) rfl
    · rename_i hu
      cases hb : (isConstOp x || isConstOp y) with
      | false => rw [hb] at hc'; cases hc'
      | true => rw [hb] at hc'; cases hc'; exact isn _ 4 hop hu rfl (fun _ => hb) rfl
    · cases hc'; exact bin rfl
    · cases hc'
  by_cases hop : op = .eql ∨ op = .neq
  · exact eqs hop
  · refine bin ?_
    unfold compileBin at hc
    split at hc
    · exact absurd (.inl rfl) hop
    · exact absurd (.inr rfl) hop
    · cases hc; rfl

theorem unOp_sound {op : UnOp} {t : TypeId} {x : Operand} {a : AOp Operand} (ho : o.op = .unOp op t x) (hc : compileOp P ins o = some a) (ha : a.all fun x => VR ρ (ρa x) (ρc x)) (hH : HR ρ H nx w.heap)
    (h : actT (a.map (Av ρa)) P T L H nx k = some r) : Good P w ρ H nx r k (execOp ρc o) := by
  have he : execOp ρc o = (do pure (.value (← Op.unary op (ρc x)))) := by simp only [execOp, ho]
  simp only [compileOp, ho] at hc
  cases hc
  exact .look he hH (un_sound ha h)

theorem convert_sound {s d : TypeId} {x : Operand} {a : AOp Operand} (ho : o.op = .convert s d x) (hc : compileOp P ins o = some a) (ha : a.all fun x => VR ρ (ρa x) (ρc x)) (hH : HR ρ H nx w.heap)
    (h : actT (a.map (Av ρa)) P T L H nx k = some r) : Good P w ρ H nx r k (execOp ρc o) := by
  have he : execOp ρc o = (do pure (.value (← convert s d (ρc x)))) := by simp only [execOp, ho]
  simp only [compileOp, ho] at hc
  cases hb : (scalarType P s && scalarType P d) with
  | false => rw [hb] at hc; cases hc
  | true =>
    rw [hb] at hc
    cases hc
    exact .look he hH (cvt_sound ha h)

theorem makeInterface_sound {t : TypeId} {x : Operand} {a : AOp Operand} (ho : o.op = .makeInterface t x) (hc : compileOp P ins o = some a) (ha : a.all fun x => VR ρ (ρa x) (ρc x)) (hH : HR ρ H nx w.heap)
    (h : actT (a.map (Av ρa)) P T L H nx k = some r) : Good P w ρ H nx r k (execOp ρc o) := by
  have he : execOp ρc o = (do pure (.value (← Instr.makeInterface t (ρc x)))) := by simp only [execOp, ho]
  simp only [compileOp, ho] at hc
  split at hc
  · cases hc
  · rename_i d hn hu
    cases hc
    exact .look he hH (ifc_sound hu (fun ms e => hn ms (by rw [e])) ha h)
  · cases hc

theorem makeFunc_sound {fn : Fn} {xs ys : Array Operand} {a : AOp Operand} (ho : o.op = .makeFunc fn xs ys) (hc : compileOp P ins o = some a) (ha : a.all fun x => VR ρ (ρa x) (ρc x)) (hH : HR ρ H nx w.heap)
    (h : actT (a.map (Av ρa)) P T L H nx k = some r) : Good P w ρ H nx r k (execOp ρc o) := by
  have he : execOp ρc o = (do pure (.value (← Instr.makeFunc fn (xs.map ρc) (ys.map ρc)))) := by simp only [execOp, ho]
  simp only [compileOp, ho] at hc
  cases fn with
  | func f =>
    cases hc
    have h' : evsK T L ((xs.toList.map ρa).map Od.cst) (fun a => evsK T L ((ys.toList.map ρa).map Od.cst) fun b => k (.func (.func f) a.toArray b.toArray) H nx) = some r := by
      rw [List.map_map, List.map_map]; exact h
    rw [evsK_cst, evsK_cst] at h'
    refine .look he hH ⟨_, .func (.func f) (xs.map ρc) (ys.map ρc), h', rfl, ?_⟩
    have e1 : xs.map ρc = ⟨xs.toList.map ρc⟩ := by apply Array.ext'; simp
    have e2 : ys.map ρc = ⟨ys.toList.map ρc⟩ := by apply Array.ext'; simp
    rw [e1, e2]
    exact .func (.map fun x hx => ha.1 x hx) (.map fun x hx => ha.2 x hx)
  | _ => cases hc

theorem slice_sound {t : TypeId} {x : Operand} {lo hi mx : Option Operand} {a : AOp Operand} (ho : o.op = .slice t x lo hi mx) (hc : compileOp P ins o = some a) (ha : a.all fun x => VR ρ (ρa x) (ρc x)) (hH : HR ρ H nx w.heap)
    (h : actT (a.map (Av ρa)) P T L H nx k = some r) : Good P w ρ H nx r k (execOp ρc o) := by
  have he : execOp ρc o = (do pure (.value (← Instr.sliceAt t (ρc x) (lo.map ρc) (hi.map ρc) (mx.map ρc)))) := by simp only [execOp, ho]
  simp only [compileOp, ho] at hc
  split at hc
  · rename_i e hu
    cases hm : (mx.isNone || hi.isSome) with
    | false => rw [hm] at hc; cases hc
    | true =>
      rw [hm] at hc
      simp only [cond_true, Option.map_eq_some_iff] at hc
      obtain ⟨z, hz, rfl⟩ := hc
      obtain ⟨h1, h2, h3, h4⟩ := ha
      refine .look he hH (slc_sound (T := T) (L := L) (lo := lo.map ρa) (hi := hi.map ρa) (mx := mx.map ρa) hu hz (by simpa using hm) h1 (.map h2) (.map h3) (.map h4) ?_)
      simp only [Option.map_map]
      exact h
  · rename_i hu
    cases mx with
    | some _ => cases hc
    | none =>
      cases hc
      obtain ⟨h1, h2, h3⟩ := ha
      have hss : ∀ (q : Option Operand) (g : Option Value → R0), sslK T L (q.map (Av ρa)) g = g (q.map ρa) := by
        intro q g; cases q <;> rfl
      have h' : sslK T L (lo.map (Av ρa)) (fun l => sslK T L (hi.map (Av ρa)) fun hh => bd (flatly P (ρa x :: (l.toList ++ hh.toList)) (Instr.slice t (ρa x) l hh none)) fun v => k v H nx) = some r := h
      rw [hss, hss] at h'
      have hvs : VRs ρ (ρa x :: ((lo.map ρa).toList ++ (hi.map ρa).toList)) (ρc x :: ((lo.map ρc).toList ++ (hi.map ρc).toList)) := by
        refine .cons h1 (.append ?_ ?_)
        · cases lo with
          | none => exact .nil
          | some q => exact .cons (h2 q rfl) .nil
        · cases hi with
          | none => exact .nil
          | some q => exact .cons (h3 q rfl) .nil
      obtain ⟨e, v, g1, g2, g3⟩ := flatly_sound (w := w) hvs h'
      have e1 : ρc x = ρa x := (List.cons.inj e).1
      have e3 := (List.cons.inj e).2
      have e2 : lo.map ρc = lo.map ρa ∧ hi.map ρc = hi.map ρa := by
        cases lo <;> cases hi <;> simp at e3 ⊢ <;> simp_all
      refine .look he hH ⟨v, v, g1, ?_, g3⟩
      rw [e1, e2.1, e2.2]
      simp only [Instr.sliceAt, Sem.run_bind, run_underlying hu, Result.andThen_ok]
      exact g2
  · cases hc

theorem fieldAddr_sound {s : TypeId} {x : Operand} {f : Nat} {a : AOp Operand} (ho : o.op = .fieldAddr s x f) (hc : compileOp P ins o = some a) (ha : a.all fun x => VR ρ (ρa x) (ρc x)) (hH : HR ρ H nx w.heap)
    (h : actT (a.map (Av ρa)) P T L H nx k = some r) : Good P w ρ H nx r k (execOp ρc o) := by
  have he : execOp ρc o = (do pure (.value (← Instr.fieldAt s (ρc x) f))) := by simp only [execOp, ho]
  simp only [compileOp, ho] at hc
  split at hc
  · rename_i fs hu
    split at hc
    · rename_i fd hf
      split at hc
      · rename_i n hn
        cases hc
        exact .look he hH (fad_sound hu hf hn ha h)
      · cases hc
    · cases hc
  · cases hc

theorem field_sound {s : TypeId} {x : Operand} {f : Nat} {a : AOp Operand} (ho : o.op = .field s x f) (hc : compileOp P ins o = some a) (ha : a.all fun x => VR ρ (ρa x) (ρc x)) (hH : HR ρ H nx w.heap)
    (h : actT (a.map (Av ρa)) P T L H nx k = some r) : Good P w ρ H nx r k (execOp ρc o) := by
  have he : execOp ρc o = (do pure (.value (← Instr.field s (ρc x) f))) := by simp only [execOp, ho]
  simp only [compileOp, ho] at hc
  split at hc
  · rename_i fs hu
    split at hc
    · rename_i fd hf
      simp only [Option.map_eq_some_iff] at hc
      obtain ⟨g, hg, rfl⟩ := hc
      exact .look he hH (fld_sound hu hf hg ha h)
    · cases hc
  · cases hc

theorem indexAddr_sound {t : TypeId} {x i : Operand} {a : AOp Operand} (ho : o.op = .indexAddr t x i) (hc : compileOp P ins o = some a) (ha : a.all fun x => VR ρ (ρa x) (ρc x)) (hH : HR ρ H nx w.heap)
    (h : actT (a.map (Av ρa)) P T L H nx k = some r) : Good P w ρ H nx r k (execOp ρc o) := by
  have he : execOp ρc o = (do pure (.value (← Instr.indexAt t (ρc x) (ρc i)))) := by simp only [execOp, ho]
  simp only [compileOp, ho] at hc
  split at hc
  · rename_i n e hu
    simp only [Option.map_eq_some_iff] at hc
    obtain ⟨z, hz, rfl⟩ := hc
    exact .look he hH (ixa_sound hu hz ha.1 ha.2 h)
  · rename_i e hu
    simp only [Option.map_eq_some_iff] at hc
    obtain ⟨z, hz, rfl⟩ := hc
    exact .look he hH (ixs_sound hu hz ha.1 ha.2 h)
  · cases hc

theorem index_sound {t : TypeId} {x i : Operand} {a : AOp Operand} (ho : o.op = .index t x i) (hc : compileOp P ins o = some a) (ha : a.all fun x => VR ρ (ρa x) (ρc x)) (hH : HR ρ H nx w.heap)
    (h : actT (a.map (Av ρa)) P T L H nx k = some r) : Good P w ρ H nx r k (execOp ρc o) := by
  have he : execOp ρc o = (do pure (.value (← Instr.index t (ρc x) (ρc i)))) := by simp only [execOp, ho]
  simp only [compileOp, ho] at hc
  split at hc
  · rename_i n e hu
    split at hc
    · rename_i g z hg hz
      cases hc
      exact .look he hH (ix_sound hu hg hz ha.1 ha.2 h)
    · cases hc
  · cases hc
    exact .look he hH (six_sound ha.1 ha.2 h)
  · cases hc

theorem lookup_sound {t : TypeId} {x i : Operand} {ok : Bool} {a : AOp Operand} (ho : o.op = .lookup t x i ok) (hc : compileOp P ins o = some a) (ha : a.all fun x => VR ρ (ρa x) (ρc x)) (hH : HR ρ H nx w.heap)
    (h : actT (a.map (Av ρa)) P T L H nx k = some r) : Good P w ρ H nx r k (execOp ρc o) := by
  have he : execOp ρc o = (do pure (.value (← Instr.lookup t (ρc x) (ρc i) ok))) := by simp only [execOp, ho]
  simp only [compileOp, ho] at hc
  split at hc
  · rename_i kt e hu
    simp only [Option.map_eq_some_iff] at hc
    obtain ⟨z, hz, rfl⟩ := hc
    exact .look he hH (lku_sound hu hz hH ha.1 ha.2 h)
  · cases hc

theorem typeAssert_sound {x : Operand} {xt t : TypeId} {ok : Bool} {a : AOp Operand} (ho : o.op = .typeAssert x xt t ok) (hc : compileOp P ins o = some a) (ha : a.all fun x => VR ρ (ρa x) (ρc x)) (hH : HR ρ H nx w.heap)
    (h : actT (a.map (Av ρa)) P T L H nx k = some r) : Good P w ρ H nx r k (execOp ρc o) := by
  have he : execOp ρc o = (do pure (.value (← Instr.typeAssert (ρc x) xt t ok))) := by simp only [execOp, ho]
  simp only [compileOp, ho] at hc
  split at hc
  · cases hc
  · rename_i d hn hu
    simp only [Option.map_eq_some_iff] at hc
    obtain ⟨z, hz, rfl⟩ := hc
    exact .look he hH (tas_sound hu (fun ms e => hn ms (by rw [e])) hz ha h)
  · cases hc

theorem extract_sound {x : Operand} {i : Nat} {a : AOp Operand} (ho : o.op = .extract x i) (hc : compileOp P ins o = some a) (ha : a.all fun x => VR ρ (ρa x) (ρc x)) (hH : HR ρ H nx w.heap)
    (h : actT (a.map (Av ρa)) P T L H nx k = some r) : Good P w ρ H nx r k (execOp ρc o) := by
  have he : execOp ρc o = (do pure (.value (← Instr.extract (ρc x) i))) := by simp only [execOp, ho]
  simp only [compileOp, ho] at hc
  cases hc
  exact .look he hH (ext_sound ha h)
end Go.Eng
/- The engine: operations that make memory. -/
namespace Go.Eng
variable {P : Program} {w : World} {ρ : Rho} {H : Heap} {nx : Nat} {r : Ex × St} {T : Tr Value} {L : List Value} {ρa ρc : Operand → Value} {o : Oper} {k : KA} {ins : List Nat}

theorem repeatN_succ (z : List Value) (n : Nat) : repeatN z (n + 1) = z ++ repeatN z n := rfl

theorem rep_eq (z : List Value) : ∀ n : Nat, ((List.range (n * z.length)).map fun i => (z.toArray)[i % z.length]!) = repeatN z n := by
  intro n
  induction n with
  | zero => rw [Nat.zero_mul]; rfl
  | succ n ih =>
    rw [repeatN_succ, ← ih]
    have e : (n + 1) * z.length = z.length + n * z.length := by rw [Nat.add_mul]; omega
    rw [e, List.range_add, List.map_append, List.map_map]
    congr 1
    · apply List.ext_getElem
      · simp
      · intro i h1 h2
        simp at h1
        have h3 : i % z.length = i := Nat.mod_eq_of_lt h1
        simp [h3, h1]
    · apply List.map_congr_left
      intro i _
      simp

theorem VRs.rep {z : List Value} (h : VRs ρ z z) : ∀ n, VRs ρ (repeatN z n) (repeatN z n) := by
  intro n
  induction n with
  | zero => exact .nil
  | succ n ih => exact .append h ih

theorem repeatN_length (z : List Value) : ∀ n, (repeatN z n).length = n * z.length := by
  intro n
  induction n with
  | zero => rw [Nat.zero_mul]; rfl
  | succ n ih => rw [repeatN_succ]; simp [ih, Nat.add_mul]; omega

theorem Good.pre {H1 : Heap} {s : Sem Next} (h : Good P w ρ H1 nx r k s) (ho : ∀ j, Own ρ H1 j → Own ρ H j) (hro : Ros H1 H) : Good P w ρ H nx r k s := by
  obtain ⟨v, H', nx', u, w', ρ', h1, h2, h3, h4, h5, h6, h7⟩ := h
  refine ⟨v, H', nx', u, w', ρ', h1, h2, h3, h4, ⟨h5.ext, fun j hj => ?_, h5.ro.trans hro, fun j hj hn => h5.frame j hj fun hx => hn (ho j hx), h5.size, h5.os, h5.tape, h5.output⟩, h6, h7⟩
  rcases h5.own j hj with h6 | h6
  · exact .inl (ho j h6)
  · exact .inr h6

theorem Good.madeB {w' : World} {b : Blk} {ob : Obj} {rf : Ref} {v u : Value} {s : Sem Next} (hH : HR ρ H nx w.heap) (hh : w'.heap = w.heap.push ob) (hos : w'.os = w.os) (ht : w'.tape = w.tape) (hout : w'.output = w.output)
    (hrb : rf.blk = w.heap.size) (hbm : b.mine = true) (hbr : BR (ρ.with nx rf) (w.heap.push ob) rf b) (hv : VR (ρ.with nx rf) v u) (hk : k v (insP (at_ nx) H (some b)) (nx + 1) = some r) (hs : s.run P w = .ok (.value u) w') : Good P w ρ H nx r k s := by
  refine ⟨v, _, _, u, w', ρ.with nx rf, hk, .inl hs, hv, ?_, ⟨hH.ext_with _, fun j hj => ?_, .put _ _ _ hbm, fun j hj _ => ?_, by rw [hh]; simp, hos, ht, hout⟩, Nat.le_succ _, fun b hb => Rho.with_ne _ _ (by omega)⟩
  · rw [hh]
    refine hH.make (fun c x s' hc hs' => ?_) hbr
    obtain ⟨q, hq, hbq⟩ := hH.blk c x hc
    rw [hs'] at hq; cases hq
    have := hbq.lt
    refine ⟨?_, by omega⟩
    rw [Array.getElem?_push]
    rw [if_neg (by omega)]
  · rcases Own.of_make hj with h | h
    · exact .inr (by omega)
    · exact .inl h
  · rw [hh, Array.getElem?_push, if_neg (by omega)]

theorem Good.made {w' : World} {cs : List Value} {cs' : Array Value} {e : TypeId} {v u : Value} {s : Sem Next} (hH : HR ρ H nx w.heap) (hh : w'.heap = w.heap.push (.cells cs' e (0, 0))) (hos : w'.os = w.os) (ht : w'.tape = w.tape) (hout : w'.output = w.output)
    (hr : ∀ (i : Nat) (x : Value), cs[i]? = some x → ∃ y, cs'[i]? = some y ∧ VR ρ x y) (hv : VR (ρ.with nx ⟨w.heap.size, 0, cs'.size⟩) v u) (hk : k v (insP (at_ nx) H (some (.cells cs))) (nx + 1) = some r) (hs : s.run P w = .ok (.value u) w') : Good P w ρ H nx r k s := by
  refine .madeB (b := .cells cs) (rf := ⟨w.heap.size, 0, cs'.size⟩) hH hh hos ht hout rfl rfl ⟨cs', e, by simp, rfl, fun i x hx => ?_⟩ hv hk hs
  obtain ⟨y, hy, hxy⟩ := hr i x hx
  exact ⟨y, by simpa using hy, hxy.mono (hH.ext_with _)⟩

theorem fresh_eq {v : Value} {cs : List Value} : fresh H nx v k cs = k v (insP (at_ nx) H (some (.cells cs))) (nx + 1) := by
  unfold fresh
  rw [setP_eq]

theorem VR.fresh {n : Nat} {sz : Nat} : VR (ρ.with nx ⟨n, 0, sz⟩) (ptrTo nx) (.pointer (some ⟨n, 0, none⟩)) := by
  have := VR.ptr (ρ := ρ.with nx ⟨n, 0, sz⟩) (b := nx) (o := 0) (Rho.with_self _ _ _)
  simpa [ptrTo] using this

theorem exact_succ (n : Nat) : sureCap (Nat.succ (Nat.mul 2 n)) = n := by
  show (2 * n + 1) / 2 = n
  omega

theorem VR.freshSl {n z len c : Nat} (h : len ≤ c ∧ c ≤ capMax) : VR (ρ.with nx ⟨n, 0, c * z⟩) (slTo nx z len (Nat.succ (Nat.mul 2 c))) (.slice (some ⟨n, 0, none⟩) len c) := by
  refine .sl (r := ⟨n, 0, c * z⟩) (Rho.with_self _ _ _) h (by rw [exact_succ]; exact Nat.le_refl _) (fun _ => (exact_succ c).symm) (.inr ⟨rfl, ?_⟩)
  simp

theorem VRs.getA {cs : List Value} {a : Array Value} (h : VRs ρ cs a.toList) : ∀ (i : Nat) (x : Value), cs[i]? = some x → ∃ y, a[i]? = some y ∧ VR ρ x y := by
  intro i x hx
  obtain ⟨y, hy, hv⟩ := h.get hx
  exact ⟨y, by simpa using hy, hv⟩

theorem box_sound {t : TypeId} {x : Operand} {a : AOp Operand} (ho : o.op = .box t x) (hc : compileOp P ins o = some a) (ha : a.all fun x => VR ρ (ρa x) (ρc x)) (hH : HR ρ H nx w.heap)
    (h : actT (a.map (Av ρa)) P T L H nx k = some r) : Good P w ρ H nx r k (execOp ρc o) := by
  have he : execOp ρc o = (do pure (.value (← Instr.box t (ρc x)))) := by simp only [execOp, ho]
  simp only [compileOp, ho] at hc
  cases hc
  have h' : fresh H nx (ptrTo nx) k (cellsOf (ρa x)) = some r := h
  rw [fresh_eq] at h'
  rw [he]
  exact .made (w' := { w with heap := w.heap.push (.cells (ρc x).cells t (0, 0)) }) hH rfl rfl rfl rfl (VRs.getA (VR.cells ha)) .fresh h' rfl

theorem alloc_sound {t : TypeId} {a : AOp Operand} (ho : o.op = .alloc t) (hc : compileOp P ins o = some a) (hH : HR ρ H nx w.heap)
    (h : actT (a.map (Av ρa)) P T L H nx k = some r) : Good P w ρ H nx r k (execOp ρc o) := by
  have he : execOp ρc o = (do pure (.value (← Instr.alloc t true (.tuple #[])))) := by simp only [execOp, ho]
  simp only [compileOp, ho, Option.map_eq_some_iff] at hc
  obtain ⟨zero, hz, rfl⟩ := hc
  have h' : fresh H nx (ptrTo nx) k zero = some r := h
  rw [fresh_eq] at h'
  obtain ⟨v, hz1, hz2⟩ := zeroCells_some hz
  have hzr := (zeroCells_of (ρ := ρ) hz hz1).2
  obtain ⟨hzr1, _⟩ := run_zero (w := w) hz1
  rw [he]
  refine .made (w' := { w with heap := w.heap.push (.cells v.cells t (0, 0)) }) hH rfl rfl rfl rfl (VRs.getA (by rw [← hz2]; exact hzr)) .fresh h' ?_
  simp only [Instr.alloc, Sem.run_bind, hzr1, Result.andThen_ok]
  rfl

theorem makeMap_sound {t : TypeId} {x : Option Operand} {a : AOp Operand} (ho : o.op = .makeMap t x) (hc : compileOp P ins o = some a) (ha : a.all fun x => VR ρ (ρa x) (ρc x)) (hH : HR ρ H nx w.heap)
    (h : actT (a.map (Av ρa)) P T L H nx k = some r) : Good P w ρ H nx r k (execOp ρc o) := by
  have he : execOp ρc o = (do pure (.value (← Instr.makeMap t (x.map ρc)))) := by simp only [execOp, ho]
  simp only [compileOp, ho] at hc
  split at hc
  · rename_i kt e hu
    cases hc
    have h' : optK T L ((x.map ρa).map Od.cst) 0 (fun _ => setP (at_ nx) H (some (.map [] 0)) fun H => k (.map (some nx)) H (Nat.succ nx)) = some r := by
      rw [Option.map_map]; exact h
    obtain ⟨n, h1, hx⟩ := optK_cst h'
    rw [setP_eq] at h1
    rw [he]
    refine .madeB (b := .map [] 0) (rf := ⟨w.heap.size, 0, 0⟩) (w' := { w with heap := w.heap.push (.map #[] 0) }) hH rfl rfl rfl rfl rfl rfl ⟨#[], by simp, .nil⟩ (.map (r := ⟨w.heap.size, 0, 0⟩) (Rho.with_self _ _ _)) h1 ?_
    rcases hx with ⟨hx, _⟩ | ⟨ki, hx⟩
    · cases x with
      | none => rfl
      | some x => simp at hx
    · cases x with
      | none => simp at hx
      | some x =>
        simp only [Option.map_some, Option.some.injEq] at hx
        have hv : VR ρ (ρa x) (ρc x) := ha x rfl
        rw [hx] at hv
        have := hv.int_inv
        simp only [Instr.makeMap, Option.map_some, this, Sem.run_bind, run_underlying hu, Result.andThen_ok]
        rfl
  · cases hc

theorem wrap_nat {n : Nat} (h : n ≤ small) : IntKind.i64.wrap (n : Int) = n := by
  unfold IntKind.wrap IntKind.bits IntKind.signed
  unfold small at h
  have h1 : (n : Int) % (2 ^ 64 : Int) = n := by omega
  simp only [h1]
  rw [if_neg]
  simp
  omega

theorem zeros_run {e : TypeId} {z c : Nat} {zero : List Value} (hz : zeroCells P e = some zero) (hl : zero.length = z) :
    ∃ zr : Array Value, (∀ K : Array Value → Sem Value, (if c * z = 0 then (do let zero ← pure #[]; K zero) else (do let v ← zeroValue e; let zero ← pure v.cells; K zero) : Sem Value).run P w = (K zr).run P w) ∧
      (Array.range (c * z)).map (zr[· % zr.size]!) = (repeatN zero c).toArray := by
  obtain ⟨v, hz1, hz2⟩ := zeroCells_some hz
  obtain ⟨hzr1, _⟩ := run_zero (w := w) hz1
  subst hl
  by_cases h0 : c * zero.length = 0
  · refine ⟨#[], fun K => by simp only [h0, if_true, Sem.run_pure, Sem.run_bind, Result.andThen_ok], ?_⟩
    have : repeatN zero c = [] := by
      apply List.eq_nil_of_length_eq_zero
      rw [repeatN_length, h0]
    rw [this, h0]
    simp
  · refine ⟨v.cells, fun K => by simp only [if_neg h0, Sem.run_bind, Sem.run_pure, Result.andThen_ok, hzr1], ?_⟩
    have e1 : v.cells = zero.toArray := by rw [hz2]
    apply Array.ext'
    rw [e1]
    simp only [Array.toList_map, Array.toList_range, List.size_toArray]
    exact rep_eq zero c

theorem asInt_run {k : IntKind} {n : Int} : (asInt (.int k n)).run P w = .ok n w := rfl

theorem zeros_VR {e : TypeId} {zero : List Value} (hz : zeroCells P e = some zero) (c : Nat) : VRs ρ (repeatN zero c) (repeatN zero c) := by
  obtain ⟨v, hz1, hz2⟩ := zeroCells_some hz
  exact ((zeroCells_of (ρ := ρ) hz hz1).2).rep c

theorem makeSlice_sound {t : TypeId} {x y : Operand} {a : AOp Operand} (ho : o.op = .makeSlice t x y) (hc : compileOp P ins o = some a) (ha : a.all fun x => VR ρ (ρa x) (ρc x)) (hH : HR ρ H nx w.heap)
    (h : actT (a.map (Av ρa)) P T L H nx k = some r) : Good P w ρ H nx r k (execOp ρc o) := by
  have he : execOp ρc o = (do pure (.value (← Instr.makeSlice t (ρc x) (ρc y)))) := by simp only [execOp, ho]
  simp only [compileOp, ho] at hc
  split at hc
  · rename_i e hu
    split at hc
    · rename_i z bytes zero hz hb hzc
      cases hl : Nat.beq zero.length z with
      | false => rw [hl] at hc; cases hc
      | true =>
        rw [hl] at hc
        cases hc
        have hl' := Nat.eq_of_beq_eq_true hl
        have h' : onNat (ρa x) (fun l => onNat (ρa y) fun c => mksV z bytes zero H nx l c k) = some r := h
        obtain ⟨k1, l, e1, h1⟩ := onNat_some h'
        obtain ⟨k2, c, e2, h2⟩ := onNat_some h1
        obtain ⟨hcc, h3⟩ := cond_some h2
        simp only [Bool.and_eq_true] at hcc
        obtain ⟨c1, c2, c3, c4⟩ := hcc
        have hlc : l ≤ c := Nat.le_of_ble_eq_true c1
        have hcb : c * bytes ≤ small := Nat.le_of_ble_eq_true c2
        have hcs : c ≤ small := Nat.le_of_ble_eq_true c3
        rw [fresh_eq] at h3
        obtain ⟨hx, hy⟩ := ha
        have hx' : ρc x = .int k1 (.ofNat l) := by rw [e1] at hx; exact hx.int_inv
        have hy' : ρc y = .int k2 (.ofNat c) := by rw [e2] at hy; exact hy.int_inv
        obtain ⟨i, hi, hib⟩ := run_bytes (w := w) hb
        obtain ⟨zr, hz1, hz2⟩ := zeros_run (w := w) (c := c) hzc hl'
        rw [he]
        have hsz : (repeatN zero c).toArray.size = c * z := by rw [List.size_toArray, repeatN_length, hl']
        refine .made (w' := { w with heap := w.heap.push (.cells (repeatN zero c).toArray e (0, 0)) }) (cs' := (repeatN zero c).toArray) hH rfl rfl rfl rfl (VRs.getA (zeros_VR hzc c)) (by rw [hsz]; exact .freshSl ⟨hlc, by unfold small at hcs; unfold capMax; omega⟩) h3 ?_
        have w1 : IntKind.i64.wrap (Int.ofNat l) = (l : Int) := wrap_nat (by omega)
        have w2 : IntKind.i64.wrap (Int.ofNat c) = (c : Int) := wrap_nat hcs
        have hsmall : small = 1099511627776 := rfl
        have hbi : ((i.bytes : Int) * (c : Int)) ≤ 1099511627776 := by
          rw [hib, Int.mul_comm]
          have : ((c * bytes : Nat) : Int) ≤ 1099511627776 := by rw [hsmall] at hcb; omega
          simpa using this
        have hcond : ((decide ((c : Int) < 0) || decide ((i.bytes : Int) * (c : Int) > 2 ^ 48) || decide ((l : Int) < 0) || decide ((l : Int) > (c : Int))) = true) ↔ False := by
          simp only [Bool.or_eq_true, decide_eq_true_eq, iff_false]
          omega
        simp only [Instr.makeSlice, Sem.run_bind, run_underlying hu, Result.andThen_ok, hx', hy', asInt_run, Sem.run_pure, hi, w1, w2]
        rw [if_neg (by rw [hcond]; exact fun h => h)]
        simp only [Sem.run_bind, run_askRoom, Result.andThen_ok, run_size hz, Int.toNat_natCast]
        rw [hz1]
        simp only [hz2, newRow, Sem.run_bind, run_newObj, Sem.run_pure, Result.andThen_ok]
    · cases hc
  · cases hc

theorem buildSlice_sound {t : TypeId} {len : Nat} {xs : Array (Nat × Operand)} {a : AOp Operand} (ho : o.op = .buildSlice t len xs) (hc : compileOp P ins o = some a) (ha : a.all fun x => VR ρ (ρa x) (ρc x)) (hH : HR ρ H nx w.heap)
    (h : actT (a.map (Av ρa)) P T L H nx k = some r) : Good P w ρ H nx r k (execOp ρc o) := by
  have he : execOp ρc o = (do pure (.value (← Instr.buildSlice t len (xs.map fun (i, x) => (i, ρc x))))) := by simp only [execOp, ho]
  have hq : (xs.map fun (i, x) => (i, ρc x)) = (xs.toList.map fun x => (x.1, ρc x.2)).toArray := by
    apply Array.ext'; simp
  rw [hq] at he
  simp only [compileOp, ho] at hc
  split at hc
  · rename_i e hu
    split at hc
    · rename_i z zero hz hzc
      cases hl : (Nat.ble (len * z) 16777216 && Nat.beq zero.length z) with
      | false => rw [hl] at hc; cases hc
      | true =>
        rw [hl] at hc
        cases hc
        simp only [Bool.and_eq_true] at hl
        have hlz : len * z ≤ 16777216 := Nat.le_of_ble_eq_true hl.1
        have hl' := Nat.eq_of_beq_eq_true hl.2
        obtain ⟨h1, h2⟩ := placesA_get (z := z) xs.toList
        have h' : partsK T L (((placesA z xs.toList).map fun x => (x.1, x.2.1, ρa x.2.2)).map fun x => (x.1, x.2.1, Od.cst x.2.2)) (fun ps => bd (fillIn (repeatN zero len) ps) fun cs =>
            cond (Nat.blt 0 z) (fresh H nx (slTo nx z len (Nat.succ (Nat.mul 2 len))) k cs) none) = some r := by
          rw [List.map_map]; exact h
        rw [partsK_cst] at h'
        obtain ⟨cs, hf, h4⟩ := bd_eq h'
        obtain ⟨hz0, hk⟩ := cond_some h4
        rw [fresh_eq] at hk
        have hlm : len ≤ capMax := by
          have h0 : 0 < z := by simpa [Nat.blt_eq] using hz0
          have : len * 1 ≤ len * z := Nat.mul_le_mul_left _ h0
          unfold capMax; omega
        obtain ⟨zr, hz1, hz2⟩ := zeros_run (w := w) (c := len) hzc hl'
        obtain ⟨c, hc1, hc2⟩ := fill_sound (ρ := ρ) (fun i => some (i * z, z)) ((placesA z xs.toList).map fun x => (x.1, x.2.1, ρa x.2.2)) (xs.toList.map fun x => (x.1, ρc x.2)) (repeatN zero len) cs (repeatN zero len).toArray (by simp [h1]) (fun i p q hpi hqi => by
          simp only [List.getElem?_map, Option.map_eq_some_iff] at hpi hqi
          obtain ⟨p', hp', rfl⟩ := hpi
          obtain ⟨q', hq', rfl⟩ := hqi
          have := h2 i p' q' hp' hq'
          subst this
          exact ⟨rfl, ha _ (List.mem_of_getElem? hp')⟩) (zeros_VR hzc len) hf
        have hcl : c.size = len * z := by
          have g1 := hc2.length
          have g2 : ∀ (ps : List (Nat × Nat × Value)) (a b : List Value), fillIn a ps = some b → b.length = a.length := by
            intro ps
            induction ps with
            | nil => intro a b hab; simp [fillIn] at hab; rw [hab]
            | cons p ps ih =>
              intro a b hab
              obtain ⟨p1, p2, p3⟩ := p
              unfold fillIn at hab
              cases hb : Nat.beq (cellsOf p3).length p2 with
              | false => rw [hb] at hab; cases hab
              | true =>
                rw [hb] at hab
                simp only [cond_true] at hab
                cases hov : over a p1 (cellsOf p3) with
                | none => simp [hov] at hab
                | some a1 =>
                  simp [hov] at hab
                  rw [ih a1 b hab, (over_get _ _ _ _ hov).1]
          have g3 := g2 _ _ _ hf
          rw [repeatN_length, hl'] at g3
          simp only [Array.length_toList] at g1
          omega
        rw [he]
        refine .made (w' := { w with heap := w.heap.push (.cells c e (0, 0)) }) (cs' := c) hH rfl rfl rfl rfl (VRs.getA hc2) (by rw [hcl]; exact .freshSl ⟨Nat.le_refl _, hlm⟩) hk ?_
        have hng : ¬ (len * z > 2 ^ 24) := by omega
        simp only [Instr.buildSlice, Sem.run_bind, run_underlying hu, Result.andThen_ok, run_size hz, if_neg hng]
        rw [hz1]
        simp only [hz2, hc1, newRow, Sem.run_bind, run_newObj, Sem.run_pure, Result.andThen_ok]
    · cases hc
  · cases hc
end Go.Eng
/- The engine: operations that write. -/
namespace Go.Eng
variable {P : Program} {w : World} {ρ : Rho} {H : Heap} {nx : Nat} {r : Ex × St} {T : Tr Value} {L : List Value} {ρa ρc : Operand → Value} {o : Oper} {k : KA} {ins : List Nat}

theorem VR.one {v u : Value} (h : VR ρ v u) (h1 : oneC v = true) : u.oneCell' = true := by
  cases h with
  | sc h => cases v <;> first | rfl | (simp [oneC] at h1)
  | agg h => simp [oneC] at h1
  | tuple h => simp [oneC] at h1
  | any h => cases u <;> first | rfl | (simp [anyOne] at h)
  | _ => rfl

theorem VRs.one {a a' : List Value} (h : VRs ρ a a') : allOne a = true → ∀ u ∈ a', u.oneCell' = true := by
  induction a generalizing a' with
  | nil => cases h; intro _ u hu; simp at hu
  | cons v a ih =>
    cases h with
    | cons h hr =>
      intro h1 u hu
      have h2 : cond (oneC v) (allOne a) false = true := h1
      cases hv : oneC v with
      | false => rw [hv] at h2; cases h2
      | true =>
        rw [hv] at h2
        rcases List.mem_cons.1 hu with rfl | hu
        · exact h.one hv
        · exact ih hr h2 u hu

theorem put1_eq {b : Nat} {v : Value} {cs : List Value} : put1 H nx b v k cs = k v (insP (at_ b) H (some (.cells cs))) nx := by
  unfold put1
  rw [setP_eq]

theorem putNth_some {K : List Value → R0} : ∀ (old : List Value) (o : Nat) (c : Value) (K : List Value → R0), putNth old o c K = some r → ∃ l, over old o [c] = some l ∧ K l = some r := by
  intro old
  induction old with
  | nil => intro o c K h; cases h
  | cons x old ih =>
    intro o c K h
    cases o with
    | zero =>
      refine ⟨c :: old, ?_, h⟩
      show overAll (x :: old) [c] = some (c :: old)
      simp [overAll]
    | succ o =>
      obtain ⟨l, h1, h2⟩ := ih o c (fun l => K (x :: l)) h
      refine ⟨x :: l, ?_, h2⟩
      show (Option.rec none (fun r => some (x :: r)) (over old o [c]) : Option (List Value)) = some (x :: l)
      rw [h1]

theorem store_sound {b off : Nat} {s : Ref} {old new new' l : List Value} (hH : HR ρ H nx w.heap) (hb : getP H (at_ b) = some (.cells old)) (hs : ρ b = some s) (hov : over old off new = some l) (hn : VRs ρ new new') (h1 : allOne new = true) :
    ∃ w', (storeCells ⟨s.blk, s.sh + off, none⟩ new').run P w = .ok () w' ∧ HR ρ (insP (at_ b) H (some (.cells l))) nx w'.heap ∧ Stp ρ H w ρ (insP (at_ b) H (some (.cells l))) w' := by
  obtain ⟨s', hs', a, e, ha, hsz, hcell⟩ := hH.blk b _ hb
  rw [hs] at hs'; cases hs'
  obtain ⟨g1, g2, g3⟩ := over_get off old new l hov
  have hnl := hn.length
  have hown : ∀ j, Own ρ (insP (at_ b) H (some (.cells l))) j → Own ρ H j := fun j hj => Own.of_write hb hj
  by_cases h0 : new = []
  · subst h0
    cases hn
    have hlo : l = old := by
      apply List.ext_getElem?
      intro i
      rw [g3 i, if_neg (by simp)]
    subst hlo
    refine ⟨w, rfl, ?_, .refl ρ, fun j hj => .inl (hown j hj), .put _ _ _, fun _ _ _ => rfl, Nat.le_refl _, rfl, rfl, rfl⟩
    exact hH.write hb hs (fun _ _ => rfl) ⟨a, e, ha, hsz, hcell⟩
  · have hpos : 0 < new.length := List.length_pos_iff.2 h0
    have hlast : s.sh + off + new'.length ≤ a.size := by
      have : off + new.length - 1 < old.length := by omega
      obtain ⟨y, hy, _⟩ := hcell (off + new.length - 1) old[off + new.length - 1] (by simp [this])
      have := (Array.getElem?_eq_some_iff.1 hy).1
      omega
    have hst := run_storeCells_at P s.blk (s.sh + off) e new' 0 a w ha (by simpa using hlast) (hn.one h1)
    refine ⟨_, hst, ?_, .refl ρ, fun j hj => .inl (hown j hj), .put _ _ _, fun j hj hno => ?_, by simp, rfl, rfl, rfl⟩
    · refine hH.write hb hs (fun j hj => setRow_other w s.blk j _ hj) ⟨_, e, setRow_heap w s.blk a _ e _ ha, ?_, fun i v hv => ?_⟩
      · simp; omega
      · rw [g3 i] at hv
        simp only [Nat.add_zero, List.getElem?_toArray]
        by_cases c1 : off ≤ i ∧ i < off + new.length
        · rw [if_pos c1] at hv
          obtain ⟨y, hy, hxy⟩ := hn.get hv
          refine ⟨y, ?_, hxy⟩
          rw [List.getElem?_append_left (by simp; omega), List.getElem?_append_right (by simp; omega)]
          simp only [List.length_take, Array.length_toList]
          rw [← hy]; congr 1; omega
        · rw [if_neg c1] at hv
          obtain ⟨y, hy, hxy⟩ := hcell i v hv
          refine ⟨y, ?_, hxy⟩
          have hlt := (Array.getElem?_eq_some_iff.1 hy).1
          by_cases c2 : i < off
          · rw [List.getElem?_append_left (by simp; omega), List.getElem?_append_left (by simp; omega), List.getElem?_take, if_pos (by omega)]
            simpa using hy
          · rw [List.getElem?_append_right (by simp; omega)]
            simp only [List.length_append, List.length_take, Array.length_toList, List.getElem?_drop]
            rw [← hy, Array.getElem?_toList]; congr 1; omega
    · refine setRow_other w s.blk j _ fun he => hno ⟨b, _, s, hb, rfl, hs, he.symm⟩

theorem storeAt_sound {t : TypeId} {x v : Operand} {a : AOp Operand} (ho : o.op = .store t x v) (hc : compileOp P ins o = some a) (ha : a.all fun x => VR ρ (ρa x) (ρc x)) (hH : HR ρ H nx w.heap)
    (h : actT (a.map (Av ρa)) P T L H nx k = some r) : Good P w ρ H nx r k (execOp ρc o) := by
  have he : execOp ρc o = (do Instr.storeAt t (ρc x) (ρc v); pure .skip) := by simp only [execOp, ho]
  simp only [compileOp, ho, Option.map_eq_some_iff] at hc
  obtain ⟨n, hn, rfl⟩ := hc
  obtain ⟨hx, hv⟩ := ha
  have h' : onPtr (ρa x) (stoV H nx n (cellsOf (ρa v)) k) = some r := h
  obtain ⟨b, off, e1, h1⟩ := onPtr_some h'
  obtain ⟨hcc, h2⟩ := cond_some h1
  simp only [Bool.and_eq_true] at hcc
  have hlen := Nat.eq_of_beq_eq_true hcc.1
  obtain ⟨old, hb, h3⟩ := cellsK_some h2
  rw [e1] at hx
  obtain ⟨s, hs, e2⟩ := hx.ptr_inv
  have hcells := hv.cells
  have hk : ∃ l, over old off (cellsOf (ρa v)) = some l ∧ k undef (insP (at_ b) H (some (.cells l))) nx = some r := by
    revert h3
    generalize cellsOf (ρa v) = cs
    intro h3
    match cs, h3 with
    | [], h3 => cases h3
    | [c], h3 =>
      obtain ⟨l, g1, g2⟩ := putNth_some (K := put1 H nx b undef k) old off c (put1 H nx b undef k) h3
      rw [put1_eq] at g2
      exact ⟨l, g1, g2⟩
    | c :: c' :: cs, h3 =>
      have h4 : bd (over old off (c :: c' :: cs)) (put1 H nx b undef k) = some r := h3
      obtain ⟨l, g1, g2⟩ := bd_eq h4
      rw [put1_eq] at g2
      exact ⟨l, g1, g2⟩
  obtain ⟨l, hov, hk⟩ := hk
  obtain ⟨w', g1, g2, g3⟩ := store_sound (P := P) hH hb hs hov hcells hcc.2
  have hsz : (ρc v).cells.size = n := by rw [← hlen, ← hcells.length]; simp
  rw [he]
  refine ⟨undef, _, nx, undef, w', ρ, hk, .inr ⟨?_, rfl⟩, .tuple .nil, g2, g3, Nat.le_refl _, fun _ _ => rfl⟩
  simp only [Instr.storeAt, e2, Instr.sureAddr, storeVar, Sem.run_bind, Sem.run_pure, Result.andThen_ok, run_size hn]
  rw [if_neg (by rw [hsz]; exact fun h => h rfl)]
  simp only [Sem.run_bind, Sem.run_pure, Result.andThen_ok, g1]

/-! ### cells that are read -/
theorem first_run {z m : Nat} {w' : World} {b p len c : Nat} {l : List Value} (hl : l.length = m * z) (h : ∀ i v, l[i]? = some v → w'.cell? ⟨b, p + i, none⟩ = some v) :
    (Builtin.firstCells z m (.slice (some ⟨b, p, none⟩) len c)).run P w' = .ok ⟨l⟩ w' := by
  unfold Builtin.firstCells
  exact run_loadCells hl h

theorem src_sound {z : Nat} {x u : Value} {K : Nat → List Value → R0} (hH : HR ρ H nx w.heap) (hv : VR ρ x u) (h : srcK H z K x = some r) :
    ∃ n cs, K n cs = some r ∧ cs.length = n * z ∧ (∃ base len c, u = .slice base len c ∧ len = n) ∧ ∀ m, m ≤ n → ∃ cs', VRs ρ (cs.take (m * z)) cs' ∧ ∀ w' : World, w'.heap = w.heap → (Builtin.firstCells z m u).run P w' = .ok ⟨cs'⟩ w' := by
  unfold srcK at h
  split at h
  · cases hv with
    | sc h => simp [scalar] at h
    | snil =>
      refine ⟨0, [], h, by simp, ⟨_, _, _, rfl, rfl⟩, fun m hm => ⟨[], by simp; exact .nil, fun w' _ => ?_⟩⟩
      simp [Builtin.firstCells, Sem.run_pure]
  · rename_i b off z' n c
    obtain ⟨hz, h1⟩ := cond_some h
    have hz' := Nat.eq_of_beq_eq_true hz
    subst hz'
    clear h
    cases hv with
    | sc h => simp [scalar] at h
    | @sl _ _ _ _ _ p c' s hs hl hsc he hp =>
      cases hn : Nat.beq n 0 with
      | true =>
        rw [hn] at h1
        have hn' := Nat.eq_of_beq_eq_true hn
        subst hn'
        refine ⟨0, [], h1, by simp, ⟨_, _, _, rfl, rfl⟩, fun m hm => ⟨[], by simp; exact .nil, fun w' _ => first_run ?_ ?_⟩⟩
        · have : m = 0 := by omega
          simp [this]
        · intro i v hi; simp at hi
      | false =>
        rw [hn] at h1
        have hn' := Nat.ne_of_beq_eq_false hn
        obtain ⟨cs0, xb, hb, hxb, h2⟩ := cellsR_some h1
        obtain ⟨cs, ht, h3⟩ := bd_eq h2
        obtain ⟨t1, t2⟩ := take?_get ht
        have t1 : cs.length = n * z := t1
        have t2 : ∀ i, i < n * z → cs[i]? = (dropN cs0 off)[i]? := t2
        obtain ⟨s', hs', hbr⟩ := hH.blk _ _ hb
        obtain ⟨a, e, fz, ha, hsz, hcell⟩ := hxb _ _ _ hbr
        rw [hs] at hs'; cases hs'
        have hp' : p = s.sh + off := by rcases hp with h0 | h0 <;> omega
        refine ⟨n, cs, h3, t1, ⟨_, _, _, rfl, rfl⟩, fun m hm => ?_⟩
        have key : ∀ q, q ≤ n * z → ∃ cs' : List Value, cs'.length = q ∧ ∀ i, i < q → ∃ x y, cs[i]? = some x ∧ cs'[i]? = some y ∧ a[s.sh + off + i]? = some y ∧ VR ρ x y := by
          intro q
          induction q with
          | zero => intro _; exact ⟨[], rfl, fun i hi => by omega⟩
          | succ q ih =>
            intro hq
            obtain ⟨l', hl', hg⟩ := ih (by omega)
            have hx : cs[q]? = some cs[q] := List.getElem?_eq_getElem (by rw [t1]; exact hq)
            have hx' := t2 q hq
            rw [hx, dropN_eq, List.getElem?_drop] at hx'
            obtain ⟨y, hy, hxy⟩ := hcell (off + q) _ hx'.symm
            refine ⟨l' ++ [y], by simp [hl'], fun i hi => ?_⟩
            by_cases e : i = q
            · subst e
              exact ⟨_, y, hx, by simp [hl'], by rw [← hy]; congr 1; omega, hxy⟩
            · obtain ⟨x, z, q1, q2, q3, q4⟩ := hg i (by omega)
              exact ⟨x, z, q1, by rw [List.getElem?_append_left (by omega)]; exact q2, q3, q4⟩
        have hmz : m * z ≤ n * z := Nat.mul_le_mul_right _ hm
        obtain ⟨cs', hl', hg⟩ := key (m * z) hmz
        refine ⟨cs', .of_get (by simp; omega) fun i x hx => ?_, fun w' hw' => ?_⟩
        · have hlt : i < m * z := by
            have := (List.getElem?_eq_some_iff.1 hx).1
            simp at this; omega
          rw [List.getElem?_take, if_pos hlt] at hx
          obtain ⟨x', y, q1, q2, q3, q4⟩ := hg i hlt
          rw [hx] at q1; cases q1
          exact ⟨y, q2, q4⟩
        · refine first_run hl' fun i v hi => ?_
          have hlt : i < m * z := by rw [← hl']; exact (List.getElem?_eq_some_iff.1 hi).1
          obtain ⟨x', y, q1, q2, q3, q4⟩ := hg i hlt
          rw [hi] at q2; cases q2
          subst hp'
          exact cell_of w' hw' ha q3
  · cases h

theorem copy_sound {t ts : TypeId} {ty : TypeId} {e : TypeId} {z : Nat} {ats : Array TypeId} {x y u v : Value} (hat : ats[0]? = some t) (hu : P.underlying t = some (.slice e)) (hz : sizeAt P e = some z) (hH : HR ρ H nx w.heap)
    (hx : VR ρ x u) (hy : VR ρ y v) (h : srcK H z (cpyD z H nx k x) y = some r) : Good P w ρ H nx r k (do pure (.value (← Builtin.copy_ ats ty #[u, v]))) := by
  obtain ⟨n, cs, h1, hl, ⟨base, len, c, rfl, hlen⟩, hfirst⟩ := src_sound (P := P) hH hy h
  subst hlen
  have zero : ∀ (b : Option Addr) (dl dc : Nat), Nat.min len dl = 0 → u = .slice b dl dc → k (.int .i64 (.ofNat 0)) H nx = some r → Good P w ρ H nx r k (do pure (.value (← Builtin.copy_ ats ty #[u, .slice base len c]))) := by
    intro b dl dc hm hu' hk
    obtain ⟨cs', hr, hrun⟩ := hfirst 0 (Nat.zero_le _)
    have : cs' = [] := by
      have := hr.length
      simp at this
      exact this
    subst this
    refine .same hH (.sc rfl) hk ?_
    have hm' : Nat.min len dl = 0 := hm
    subst hu'
    simp only [Builtin.copy_, hat, List.getElem?_toArray, List.getElem?_cons_zero, List.getElem?_cons_succ, Sem.run_bind, run_underlying hu, Result.andThen_ok, Builtin.lenOf, Sem.run_pure, run_size hz, hm', hrun w rfl]
    cases b with
    | none => rfl
    | some a => rfl
  unfold cpyD at h1
  split at h1
  · cases hx with
    | sc h => simp [scalar] at h
    | snil => exact zero _ _ _ (Nat.min_zero _) rfl h1
  · obtain ⟨b, off, z', dl, dc, rfl, h2⟩ := onSl_some h1
    obtain ⟨hzz, h3⟩ := cond_some h2
    have hz' := Nat.eq_of_beq_eq_true hzz
    subst hz'
    cases hx with
    | sc h => simp [scalar] at h
    | @sl _ _ _ _ _ p c' s hs hl' hsc he hp =>
      cases hm : Nat.beq (Nat.min len dl) 0 with
      | true =>
        rw [hm] at h3
        exact zero _ _ _ (Nat.eq_of_beq_eq_true hm) rfl h3
      | false =>
        rw [hm] at h3
        have hm' := Nat.ne_of_beq_eq_false hm
        obtain ⟨cs1, ht, h4⟩ := bd_eq h3
        obtain ⟨h1c, h5⟩ := cond_some h4
        obtain ⟨old, hb, h6⟩ := cellsK_some h5
        obtain ⟨l, hov, h7⟩ := bd_eq h6
        rw [put1_eq] at h7
        obtain ⟨t1, t2⟩ := take?_eq _ _ _ ht
        obtain ⟨cs', hr, hrun⟩ := hfirst (Nat.min len dl) (Nat.min_le_left _ _)
        have t1' : cs1 = cs.take (Nat.min len dl * z) := t1
        rw [← t1'] at hr
        have hdl : dl ≠ 0 := by
          intro h0; subst h0
          exact hm' (Nat.min_zero _)
        have hp' : p = s.sh + off := by rcases hp with h0 | h0 <;> omega
        subst hp'
        obtain ⟨w', g1, g2, g3⟩ := store_sound (P := P) hH hb hs hov hr h1c
        refine ⟨_, _, nx, .int .i64 (.ofNat (Nat.min len dl)), w', ρ, h7, .inl ?_, .sc rfl, g2, g3, Nat.le_refl _, fun _ _ => rfl⟩
        simp only [Builtin.copy_, hat, List.getElem?_toArray, List.getElem?_cons_zero, List.getElem?_cons_succ, Sem.run_bind, run_underlying hu, Result.andThen_ok, Builtin.lenOf, Sem.run_pure, run_size hz, hrun w rfl, g1]
        rfl
end Go.Eng
/- The engine: operations that write: maps. -/
namespace Go.Eng
variable {P : Program} {w : World} {ρ : Rho} {H : Heap} {nx : Nat} {r : Ex × St} {T : Tr Value} {L : List Value} {ρa ρc : Operand → Value} {o : Oper} {k : KA} {ins : List Nat}

theorem mapK_some {v : Value} {K : Nat → List MapEntry → Nat → R0} (h : mapK H v K = some r) : ∃ b es c, v = .map (some b) ∧ getP H (at_ b) = some (.map es c) ∧ K b es c = some r := by
  unfold mapK at h
  split at h
  · obtain ⟨es, c, h1, h2⟩ := onMapB_some h
    exact ⟨_, es, c, rfl, h1, h2⟩
  · cases h

theorem ERs.append {a a' b b' : List MapEntry} (h : ERs ρ a a') (h' : ERs ρ b b') : ERs ρ (a ++ b) (a' ++ b') := by
  induction h with
  | nil => exact h'
  | cons hk hv hb _ ih => exact .cons hk hv hb ih

theorem ERs.set {f : MapEntry → MapEntry} {v u : Value} (hv : VR ρ v u) : ∀ {es es' : List MapEntry}, ERs ρ es es' → ∀ i : Nat, (∀ e', es'[i]? = some e' → (f e').key = e'.key ∧ (f e').val = u ∧ (f e').born = e'.born) → ERs ρ (setVal es i v) (es'.modify i f) := by
  intro es es' h
  induction h with
  | nil => intro i _; cases i <;> exact .nil
  | @cons e e' es es' hk hv' hb hr ih =>
    intro i hf
    cases i with
    | zero =>
      obtain ⟨f1, f2, f3⟩ := hf e' rfl
      show ERs ρ ({ e with val := v } :: es) (f e' :: es')
      exact .cons (by rw [f1]; exact hk) (by rw [f2]; exact hv) (by rw [f3]; exact hb) hr
    | succ i =>
      show ERs ρ (e :: setVal es i v) (e' :: es'.modify i f)
      exact .cons hk hv' hb (ih i fun e'' he => hf e'' (by simpa using he))

theorem ERs.touch {f : MapEntry → MapEntry} : ∀ {es es' : List MapEntry}, ERs ρ es es' → ∀ i : Nat, (∀ e', es'[i]? = some e' → (f e').key = e'.key ∧ (f e').val = e'.val ∧ (f e').born = e'.born) → ERs ρ es (es'.modify i f) := by
  intro es es' h
  induction h with
  | nil => intro i _; cases i <;> exact .nil
  | @cons e e' es es' hk hv' hb hr ih =>
    intro i hf
    cases i with
    | zero =>
      obtain ⟨f1, f2, f3⟩ := hf e' rfl
      exact .cons (by rw [f1]; exact hk) (by rw [f2]; exact hv') (by rw [f3]; exact hb) hr
    | succ i => exact .cons hk hv' hb (ih i fun e'' he => hf e'' (by simpa using he))

theorem setObj_run {b : Nat} {es : Array MapEntry} {c : Nat} (ob : Obj) (h : w.heap[b]? = some (.map es c)) : (setObj b ob).run P w = .ok () { w with heap := w.heap.setIfInBounds b ob } := by
  simp [setObj, Sem.run, h]

/-- a map's block is written -/
theorem Good.mapped {s : Sem Next} {b : Nat} {rf : Ref} {es es2 : List MapEntry} {c c2 : Nat} {es1 es' : Array MapEntry} {v u : Value} (hH : HR ρ H nx w.heap) (hb : getP H (at_ b) = some (.map es c)) (hs : ρ b = some rf) (he : w.heap[rf.blk]? = some (.map es1 c))
    (hr : ERs ρ es2 es'.toList) (hv : VR ρ v u) (hk : k v (insP (at_ b) H (some (.map es2 c2))) nx = some r)
    (hrun : s.run P w = .ok (.value u) { w with heap := w.heap.setIfInBounds rf.blk (.map es' c2) } ∨ (s.run P w = .ok .skip { w with heap := w.heap.setIfInBounds rf.blk (.map es' c2) } ∧ u = undef)) : Good P w ρ H nx r k s := by
  have hlt := (Array.getElem?_eq_some_iff.1 he).1
  refine ⟨v, _, nx, u, _, ρ, hk, hrun, hv, ?_, ⟨.refl ρ, fun j hj => .inl (Own.of_write hb hj), .put _ _ _, fun j hj hn => ?_, by simp, rfl, rfl, rfl⟩, Nat.le_refl _, fun _ _ => rfl⟩
  · refine hH.write hb hs (fun i hi => ?_) ⟨es', ?_, hr⟩
    · simp only
      rw [Array.getElem?_setIfInBounds, if_neg (fun e => hi e.symm)]
    · simp only
      rw [Array.getElem?_setIfInBounds, if_pos rfl, if_pos hlt]
  · have : rf.blk ≠ j := fun e => hn ⟨b, _, rf, hb, rfl, hs, e⟩
    simp only
    rw [Array.getElem?_setIfInBounds, if_neg this]

theorem stays_run {a b : Value} (h : Instr.sameBits 10000 a b = true) : (Instr.keyThatStays a b).run P w = .ok b w := by
  simp only [Instr.keyThatStays, h, if_true, Sem.run_pure]


theorem mapUpdate_sound {t : TypeId} {m q x : Operand} {a : AOp Operand} (ho : o.op = .mapUpdate t m q x ∨ o.op = .insert t m q x) (hc : compileOp P ins o = some a) (ha : a.all fun x => VR ρ (ρa x) (ρc x)) (hH : HR ρ H nx w.heap)
    (h : actT (a.map (Av ρa)) P T L H nx k = some r) : Good P w ρ H nx r k (execOp ρc o) := by
  have he : execOp ρc o = (do Instr.mapUpdate t (ρc m) (ρc q) (ρc x); pure .skip) := by rcases ho with ho | ho <;> simp only [execOp, ho]
  have hc' : ∃ kt e, P.underlying t = some (.map kt e) ∧ a = .mup m q x kt := by
    rcases ho with ho | ho
    all_goals
      simp only [compileOp, ho] at hc
      split at hc
      · rename_i kt e hu
        cases hc
        exact ⟨kt, e, hu, rfl⟩
      · cases hc
  obtain ⟨kt, e, hu, rfl⟩ := hc'
  obtain ⟨hm, hq, hx⟩ := ha
  have h' : mapK H (ρa m) (fun b es c => bd (findAt P false kt (ρa q) es) fun i => Option.rec (setP (at_ b) H (some (newEntry es c (ρa q) (ρa x))) fun H => k undef H nx) (fun i => setP (at_ b) H (some (.map (setVal es i (ρa x)) c)) fun H => k undef H nx) i) = some r := h
  obtain ⟨b, es, c, e1, hb, h1⟩ := mapK_some h'
  obtain ⟨i, hi, h2⟩ := bd_eq h1
  rw [e1] at hm
  generalize hmu : ρc m = mu at hm
  cases hm with
  | sc h => simp [scalar] at h
  | @map _ s hs =>
    obtain ⟨s', hs', es', hes, hr⟩ := hH.blk _ _ hb
    rw [hs] at hs'; cases hs'
    obtain ⟨hf, hck, hcase⟩ := findAt_sound (w := w) hi hr
    have hq' := hq.flat_eq hf
    rw [he]
    rcases hcase with ⟨rfl, hfk⟩ | ⟨j, e1, e2, rfl, g1, g2, g3, g4, g5, g6, g7, hfk⟩
    · have h3 : setP (at_ b) H (some (newEntry es c (ρa q) (ρa x))) (fun H => k undef H nx) = some r := h2
      rw [setP_eq] at h3
      refine .mapped (es' := es'.push { key := ρa q, val := ρc x, born := c }) (c2 := c + 1) hH hb hs hes ?_ (.tuple .nil) h3 (.inr ⟨?_, rfl⟩)
      · rw [Array.toList_push]
        exact hr.append (.cons (by rw [← hq'] at hq ⊢; rw [hq']; exact .of_flat hf) hx rfl .nil)
      · simp only [Instr.mapUpdate, Sem.run_bind, run_underlying hu, Result.andThen_ok, hmu, getObj_run w rfl hes, hq', hck, hfk, setObj_run _ hes, Sem.run_pure]
    · have h3 : setP (at_ b) H (some (.map (setVal es j (ρa x)) c)) (fun H => k undef H nx) = some r := h2
      rw [setP_eq] at h3
      have hget : es'[j]? = some e2 := by rw [← Array.getElem?_toList]; exact g2
      refine .mapped (es' := es'.modify j fun e => { e with key := ρa q, val := ρc x }) (c2 := c) hH hb hs hes ?_ (.tuple .nil) h3 (.inr ⟨?_, rfl⟩)
      · rw [Array.toList_modify]
        refine hr.set hx j fun e' he' => ⟨?_, rfl, rfl⟩
        rw [g2] at he'; cases he'
        exact g5.symm
      · simp only [Instr.mapUpdate, Sem.run_bind, run_underlying hu, Result.andThen_ok, hmu, getObj_run w rfl hes, hq', hck, hfk, hget, Option.map_some, Option.getD_some, stays_run g7, setObj_run _ hes, Sem.run_pure]

theorem mapEntry_sound {t : TypeId} {m q : Operand} {a : AOp Operand} (ho : o.op = .mapEntry t m q) (hc : compileOp P ins o = some a) (ha : a.all fun x => VR ρ (ρa x) (ρc x)) (hH : HR ρ H nx w.heap)
    (h : actT (a.map (Av ρa)) P T L H nx k = some r) : Good P w ρ H nx r k (execOp ρc o) := by
  have he : execOp ρc o = (do pure (.value (← Instr.mapEntry t (ρc m) (ρc q)))) := by simp only [execOp, ho]
  simp only [compileOp, ho] at hc
  split at hc
  · rename_i kt e hu
    simp only [Option.map_eq_some_iff] at hc
    obtain ⟨z, hz, rfl⟩ := hc
    obtain ⟨hz1, hz2⟩ := run_zero (w := w) hz
    obtain ⟨hm, hq⟩ := ha
    have h' : mapK H (ρa m) (fun b es c => bd (findAt P false kt (ρa q) es) fun i => Option.rec (setP (at_ b) H (some (newEntry es c (ρa q) z)) fun H => k (.tuple #[z, .int .i64 (.ofNat c)]) H nx)
      (fun i => bd (entryAt es i) fun e => k (.tuple #[e.val, .int .i64 (.ofNat e.born)]) H nx) i) = some r := h
    obtain ⟨b, es, c, e1, hb, h1⟩ := mapK_some h'
    obtain ⟨i, hi, h2⟩ := bd_eq h1
    rw [e1] at hm
    generalize hmu : ρc m = mu at hm
    cases hm with
    | sc h => simp [scalar] at h
    | @map _ s hs =>
      obtain ⟨s', hs', es', hes, hr⟩ := hH.blk _ _ hb
      rw [hs] at hs'; cases hs'
      obtain ⟨hf, hck, hcase⟩ := findAt_sound (w := w) hi hr
      have hq' := hq.flat_eq hf
      rw [he]
      rcases hcase with ⟨rfl, hfk⟩ | ⟨j, e1, e2, rfl, g1, g2, g3, g4, g5, g6, g7, hfk⟩
      · have h3 : setP (at_ b) H (some (newEntry es c (ρa q) z)) (fun H => k (.tuple #[z, .int .i64 (.ofNat c)]) H nx) = some r := h2
        rw [setP_eq] at h3
        refine .mapped (es' := es'.push { key := ρa q, val := z, born := c }) (c2 := c + 1) hH hb hs hes ?_ (.tuple (.cons (.of_const hz2) (.cons (.sc rfl) .nil))) h3 (.inl ?_)
        · rw [Array.toList_push]
          exact hr.append (.cons (.of_flat hf) (.of_const hz2) rfl .nil)
        · simp only [Instr.mapEntry, Sem.run_bind, run_underlying hu, Result.andThen_ok, hmu, getObj_run w rfl hes, hq', hck, hfk, hz1, setObj_run _ hes, Sem.run_pure]
          rfl
      · have h3 : bd (entryAt es j) (fun e => k (.tuple #[e.val, .int .i64 (.ofNat e.born)]) H nx) = some r := h2
        rw [entryAt_eq, g1] at h3
        have hget : es'[j]? = some e2 := by rw [← Array.getElem?_toList]; exact g2
        have hlt := (Array.getElem?_eq_some_iff.1 hes).1
        have hsame : es'.modify j (fun e => { e with key := ρa q }) = es' := by
          apply Array.ext'
          rw [Array.toList_modify]
          apply List.ext_getElem?
          intro i
          rw [List.getElem?_modify]
          by_cases hij : j = i
          · subst hij
            rw [g2]
            simp [← g5]
          · simp [hij]
        have hw : { w with heap := w.heap.setIfInBounds s.blk (.map es' c) } = w := by
          have : w.heap.setIfInBounds s.blk (.map es' c) = w.heap := by
            apply Array.ext_getElem?
            intro i
            rw [Array.getElem?_setIfInBounds]
            by_cases hij : s.blk = i
            · subst hij; rw [if_pos rfl, if_pos hlt, hes]
            · rw [if_neg hij]
          rw [this]
        refine .same hH (.tuple (.cons g3 (.cons (.sc rfl) .nil))) h3 ?_
        simp only [Instr.mapEntry, Sem.run_bind, run_underlying hu, Result.andThen_ok, hmu, getObj_run w rfl hes, hq', hck, hfk, hget, Option.map_some, Option.getD_some, stays_run g7, setObj_run _ hes, Sem.run_pure, hsame, hw, g4]
        rfl
  · cases hc

theorem bornAt_some : ∀ {es : List MapEntry} {b j i : Nat}, bornAt es b j = some i → ∃ q, i = j + q ∧ q < es.length ∧ (∀ e, es[q]? = some e → e.born = b) ∧ ∀ p, p < q → ∀ e, es[p]? = some e → e.born ≠ b := by
  intro es
  induction es with
  | nil => intro b j i h; cases h
  | cons e es ih =>
    intro b j i h
    unfold bornAt at h
    cases hb : Nat.beq e.born b with
    | true =>
      rw [hb] at h; cases h
      exact ⟨0, rfl, by simp, fun e' he => by simp at he; subst he; exact Nat.eq_of_beq_eq_true hb, fun p hp => by omega⟩
    | false =>
      rw [hb] at h
      obtain ⟨q, h1, h2, h3, h4⟩ := ih h
      refine ⟨q + 1, by omega, by simp; omega, fun e' he => h3 e' (by simpa using he), fun p hp e' he => ?_⟩
      cases p with
      | zero => simp at he; subst he; exact Nat.ne_of_beq_eq_false hb
      | succ p => exact h4 p (by omega) e' (by simpa using he)

theorem findIdx_born {es : Array MapEntry} {b q : Nat} (hq : q < es.size) (h1 : ∀ e, es[q]? = some e → e.born = b) (h2 : ∀ p, p < q → ∀ e, es[p]? = some e → e.born ≠ b) :
    es.findIdx? (fun e => (e.born : Int) == (b : Int)) = some q := by
  rw [Array.findIdx?_eq_some_iff_getElem]
  refine ⟨hq, ?_, fun j hj => ?_⟩
  · have := h1 es[q] (by simp [hq])
    simp [this]
  · have := h2 j hj es[j] (by simp)
    simpa using by omega

theorem entryStore_sound {t : TypeId} {m q x : Operand} {a : AOp Operand} (ho : o.op = .entryStore t m q x) (hc : compileOp P ins o = some a) (ha : a.all fun x => VR ρ (ρa x) (ρc x)) (hH : HR ρ H nx w.heap)
    (h : actT (a.map (Av ρa)) P T L H nx k = some r) : Good P w ρ H nx r k (execOp ρc o) := by
  have he : execOp ρc o = (do Instr.entryStore t (ρc m) (ρc q) (ρc x); pure .skip) := by simp only [execOp, ho]
  simp only [compileOp, ho] at hc
  cases hc
  obtain ⟨hm, hq, hx⟩ := ha
  have h' : onNat (ρa q) (fun b => mapK H (ρa m) fun r es c => bd (bornAt es b 0) fun i => setP (at_ r) H (some (.map (setVal es i (ρa x)) c)) fun H => k undef H nx) = some r := h
  obtain ⟨kq, n, e0, h0⟩ := onNat_some h'
  obtain ⟨b, es, c, e1, hb, h1⟩ := mapK_some h0
  obtain ⟨i, hi, h2⟩ := bd_eq h1
  rw [setP_eq] at h2
  rw [e1] at hm
  rw [e0] at hq
  have hq' := hq.int_inv
  generalize hmu : ρc m = mu at hm
  cases hm with
  | sc h => simp [scalar] at h
  | @map _ s hs =>
    obtain ⟨s', hs', es', hes, hr⟩ := hH.blk _ _ hb
    rw [hs] at hs'; cases hs'
    obtain ⟨j, g1, g2, g3, g4⟩ := bornAt_some hi
    have hij : i = j := by omega
    subst hij
    have hl := hr.length
    have hfi : es'.findIdx? (fun e => (e.born : Int) == (Int.ofNat n)) = some i := by
      refine findIdx_born (by simp at hl; omega) (fun e he => ?_) fun p hp e he => ?_
      · obtain ⟨e0, he0, _, _, hbn⟩ := hr.get (i := i) (e' := e) (by rw [Array.getElem?_toList]; exact he)
        rw [hbn]; exact g3 e0 he0
      · obtain ⟨e0, he0, _, _, hbn⟩ := hr.get (i := p) (e' := e) (by rw [Array.getElem?_toList]; exact he)
        rw [hbn]; exact g4 p hp e0 he0
    rw [he]
    refine .mapped (es' := es'.modify i fun e => { e with val := ρc x }) (c2 := c) hH hb hs hes ?_ (.tuple .nil) h2 (.inr ⟨?_, rfl⟩)
    · rw [Array.toList_modify]
      exact hr.set hx i fun e' he' => ⟨rfl, rfl, rfl⟩
    · simp only [Instr.entryStore, Sem.run_bind, Result.andThen_ok, hmu, getObj_run w rfl hes, hq', asInt_run, hfi, setObj_run _ hes, Sem.run_pure]
end Go.Eng
/- The engine: append. -/
namespace Go.Eng
variable {P : Program} {w : World} {ρ : Rho} {H : Heap} {nx : Nat} {r : Ex × St} {T : Tr Value} {L : List Value} {ρa ρc : Operand → Value} {o : Oper} {k : KA} {ins : List Nat}

theorem int_wrap {n : Nat} (h : n ≤ small) : IntKind.i64.wrap (Int.ofNat n) = (n : Int) := wrap_nat h

/-- what is appended, as the model reads it: another slice's first cells, or zeros -/
inductive Src (P : Program) (w : World) (e : TypeId) (z : Nat) (t2 : TypeId) : Value → Nat → List Value → Prop where
  | cells {e2 : TypeId} {b : Option Addr} {n c : Nat} {news : List Value} (ht : P.underlying t2 = some (.slice e2)) (hf : ∀ w' : World, w'.heap = w.heap → (Builtin.firstCells z n (.slice b n c)).run P w' = .ok ⟨news⟩ w') : Src P w e z t2 (.slice b n c) n news
  | zeros {ki kq : IntKind} {n : Nat} {i : TypeInfo} {zv : Value} (ht : P.underlying t2 = some (.int ki)) (hi : P.info? e = some i) (hz : i.zero = some zv) (hs : zv.cells.size = z) (h1 : n ≤ small) (h2 : n * i.bytes ≤ small) :
      Src P w e z t2 (.int kq (.ofNat n)) n (repeatN zv.cells.toList n)

theorem zeroCells_eq (zv : Value) (n : Nat) : Builtin.zeroCells zv.cells n = (repeatN zv.cells.toList n).toArray := by
  apply Array.ext'
  have h := rep_eq zv.cells.toList n
  simp only [Builtin.zeroCells, Array.toList_map, Array.toList_range]
  rw [← h]
  simp

variable {t t2 ty e : TypeId} {z : Nat} {i : TypeInfo}

theorem app_room {x : Value} {n : Nat} {news : List Value} {w' : World} {g p sLen sCap : Nat} (ht : P.underlying t = some (.slice e)) (hi : P.info? e = some i) (hz : i.size = z) (hx : Src P w e z t2 x n news) (hroom : sLen + n ≤ sCap)
    (hst : (storeCells ⟨g, p + sLen * z, none⟩ news).run P w = .ok () w') :
    (Builtin.append_ #[t, t2] ty #[.slice (some ⟨g, p, none⟩) sLen sCap, x]).run P w = .ok (.slice (some ⟨g, p, none⟩) (sLen + n) sCap) w' := by
  cases hx with
  | cells ht2 hf =>
    simp [Builtin.append_, run_underlying ht, run_underlying ht2, sizeOf, typeInfo, hi, hz, Builtin.lenOf, hroom, hf w rfl, Addr.add_lit, hst]
  | @zeros ki kq _ i' zv ht2 hi' hz' hs h1 h2 =>
    rw [hi] at hi'; cases hi'
    have hw : IntKind.i64.wrap (n : Int) = (n : Int) := wrap_nat h1
    have hsm : small = 1099511627776 := rfl
    have hb : ¬ ((281474976710656 : Int) < (n : Int) * (i.bytes : Int)) := by
      have : ((n * i.bytes : Nat) : Int) ≤ 1099511627776 := by rw [hsm] at h2; omega
      have h3 : (n : Int) * (i.bytes : Int) ≤ 1099511627776 := by simpa using this
      omega
    have hneg : ¬ ((n : Int) < 0) := by omega
    by_cases h0 : n * z = 0
    · have : repeatN zv.cells.toList n = [] := by
        apply List.eq_nil_of_length_eq_zero
        rw [repeatN_length]; simp [hs, h0]
      rw [this] at hst
      simp [Builtin.append_, run_underlying ht, run_underlying ht2, sizeOf, typeInfo, hi, hz, asInt_run, hw, hb, hneg, hroom, h0, Addr.add_lit, hst]
    · simp [Builtin.append_, run_underlying ht, run_underlying ht2, sizeOf, typeInfo, zeroValue, hi, hz, hz', asInt_run, hw, hb, hneg, hroom, h0, Addr.add_lit, zeroCells_eq, hst]

theorem app_none {x : Value} {news : List Value} {b : Option Addr} {sLen sCap : Nat} (ht : P.underlying t = some (.slice e)) (hi : P.info? e = some i) (hz : i.size = z) (hx : Src P w e z t2 x 0 news) (hn : news = []) (hroom : sLen ≤ sCap) :
    (Builtin.append_ #[t, t2] ty #[.slice b sLen sCap, x]).run P w = .ok (.slice b sLen sCap) w := by
  subst hn
  cases hx with
  | cells ht2 hf =>
    cases b <;> simp [Builtin.append_, run_underlying ht, run_underlying ht2, sizeOf, typeInfo, hi, hz, Builtin.lenOf, hroom, hf w rfl, storeCells, Sem.run_pure]
  | @zeros ki kq _ i' zv ht2 hi' hz' hs h1 h2 =>
    have hw : IntKind.i64.wrap (0 : Int) = (0 : Int) := rfl
    cases b <;> simp [Builtin.append_, run_underlying ht, run_underlying ht2, sizeOf, typeInfo, hi, hz, asInt_run, hw, hroom, storeCells, Sem.run_pure]

theorem app_grow {x : Value} {n : Nat} {news olds : List Value} {b : Option Addr} {sLen sCap : Nat} {zv : Value} (ht : P.underlying t = some (.slice e)) (hi : P.info? e = some i) (hz : i.size = z) (hzv : i.zero = some zv) (hx : Src P w e z t2 x n news)
    (ho : ∀ w' : World, w'.heap = w.heap → (Builtin.firstCells z sLen (.slice b sLen sCap)).run P w' = .ok ⟨olds⟩ w')
    (hg : sCap < sLen + n) (h63 : sLen + n ≤ small) (hby : (sLen + n) * i.bytes ≤ small) :
    (Builtin.append_ #[t, t2] ty #[.slice b sLen sCap, x]).run P w = .ok (.slice (some ⟨w.heap.size, 0, none⟩) (sLen + n) (grownCap w (sLen + n) sCap e))
      (w.drew.alloc (.cells (olds.toArray ++ news.toArray ++ Builtin.zeroCells zv.cells (grownCap w (sLen + n) sCap e - (sLen + n))) e)) := by
  have hsm : small = 1099511627776 := rfl
  rw [hsm] at h63 hby
  have hn : ¬ (sLen + n ≤ sCap) := by omega
  have h63' : ¬ (9223372036854775807 < ((sLen : Int) + (n : Int))) := by omega
  have hfit := growslice_fits (old := sCap) (need := sLen + n) (bytes := i.bytes) hg (by omega)
  have h48' : ¬ (281474976710656 < Builtin.nextslicecap (sLen + n) sCap * i.bytes) := by omega
  cases hx with
  | cells ht2 hf =>
    simp [Builtin.append_, run_underlying ht, run_underlying ht2, sizeOf, typeInfo, zeroValue, hi, hz, hzv, Builtin.lenOf, hn, h63', h48', Question.forced, hf w.drew rfl, ho w.drew rfl, newRow, grownCap]
    congr 2
    apply Array.ext'
    simp [List.append_assoc]
  | @zeros ki kq _ i' zv' ht2 hi' hz' hs h1 h2 =>
    rw [hi] at hi'; cases hi'
    rw [hzv] at hz'; cases hz'
    have hw : IntKind.i64.wrap (n : Int) = (n : Int) := wrap_nat h1
    have hb : ¬ ((281474976710656 : Int) < (n : Int) * (i.bytes : Int)) := by
      have : ((n * i.bytes : Nat) : Int) ≤ 1099511627776 := by rw [hsm] at h2; omega
      have h3 : (n : Int) * (i.bytes : Int) ≤ 1099511627776 := by simpa using this
      omega
    have hneg : ¬ ((n : Int) < 0) := by omega
    by_cases h0 : n * z = 0
    · have : repeatN zv.cells.toList n = [] := by
        apply List.eq_nil_of_length_eq_zero
        rw [repeatN_length]; simp [hs, h0]
      rw [this]
      simp [Builtin.append_, run_underlying ht, run_underlying ht2, sizeOf, typeInfo, zeroValue, hi, hz, hzv, asInt_run, hw, hb, hneg, hn, h63', h48', h0, Question.forced, ho w.drew rfl, newRow, grownCap]
    · simp [Builtin.append_, run_underlying ht, run_underlying ht2, sizeOf, typeInfo, zeroValue, hi, hz, hzv, asInt_run, hw, hb, hneg, hn, h63', h48', h0, Question.forced, ho w.drew rfl, zeroCells_eq, newRow, grownCap]
theorem appNew_some {bytes : Nat} {len n : Nat} {old new : List Value} (h : appNew z bytes H nx k len n old new = some r) :
    (len + n) * bytes ≤ small ∧ len + n ≤ small ∧ k (slTo nx z (len + n) (2 * (len + n))) (insP (at_ nx) H (some (.cells (old ++ new)))) (nx + 1) = some r := by
  unfold appNew at h
  obtain ⟨hc, h1⟩ := cond_some h
  simp only [Bool.and_eq_true] at hc
  rw [fresh_eq] at h1
  exact ⟨Nat.le_of_ble_eq_true hc.1, Nat.le_of_ble_eq_true hc.2, h1⟩

theorem slTo_VR {rf : Ref} {z len p c' : Nat} (h : len ≤ c' ∧ c' ≤ capMax) (hp : p = rf.sh ∧ p + c' * z ≤ rf.size) : VR (ρ.with nx rf) (slTo nx z len (2 * len)) (.slice (some ⟨rf.blk, p, none⟩) len c') := by
  have h1 := h.1
  refine .sl (Rho.with_self _ _ _) h ?_ (fun hx => ?_) (.inr ⟨by omega, hp.2⟩)
  · show 2 * len / 2 ≤ c'
    omega
  · rw [exact_iff] at hx
    omega

/-- append makes a new row -/
theorem grow_sound {bytes : Nat} {x : Value} {n len sCap : Nat} {b : Option Addr} {old new olds news : List Value} {zv : Value} (hH : HR ρ H nx w.heap) (ht : P.underlying t = some (.slice e)) (hi : P.info? e = some i) (hz : i.size = z) (hb : i.bytes = bytes) (hzv : i.zero = some zv) (hzs : zv.cells.size = z)
    (hx : Src P w e z t2 x n news) (ho : ∀ w' : World, w'.heap = w.heap → (Builtin.firstCells z len (.slice b len sCap)).run P w' = .ok ⟨olds⟩ w') (hro : VRs ρ old olds) (hrn : VRs ρ new news) (hol : old.length = len * z) (hnl : new.length = n * z) (hg : sCap < len + n)
    (h : appNew z bytes H nx k len n old new = some r) : Good P w ρ H nx r k (do pure (.value (← Builtin.append_ #[t, t2] ty #[.slice b len sCap, x]))) := by
  obtain ⟨h1, h2, hk⟩ := appNew_some h
  have hrun := app_grow (ty := ty) ht hi hz hzv hx ho hg h2 (by rw [hb]; exact h1)
  have hge := grownCap_ge w (len + n) sCap e
  have hmx : grownCap w (len + n) sCap e ≤ capMax := grownCap_le_maxLen w (len + n) sCap e (by unfold maxLen; unfold small at h2; omega)
  have hsz : (olds.toArray ++ news.toArray ++ Builtin.zeroCells zv.cells (grownCap w (len + n) sCap e - (len + n))).size = grownCap w (len + n) sCap e * z := by
    simp only [Array.size_append, List.size_toArray, size_zeroCells, hro.length, hrn.length, hol, hnl, hzs]
    rw [← Nat.add_mul, ← Nat.add_mul]
    congr 1
    omega
  refine .made (e := e) (w' := w.drew.alloc (.cells (olds.toArray ++ news.toArray ++ Builtin.zeroCells zv.cells (grownCap w (len + n) sCap e - (len + n))) e)) hH rfl rfl rfl rfl ?_ (slTo_VR (rf := ⟨w.heap.size, 0, _⟩) ⟨hge, hmx⟩ ⟨rfl, ?_⟩) hk ?_
  · intro j y hj
    obtain ⟨y', hy', hv⟩ := (hro.append hrn).get hj
    have hlt := (List.getElem?_eq_some_iff.1 hy').1
    refine ⟨y', ?_, hv⟩
    rw [Array.getElem?_append_left (by simpa using hlt)]
    simpa using hy'
  · rw [hsz]; simp
  · simp only [Sem.run_bind, hrun, Result.andThen_ok, Sem.run_pure]

/-- append writes behind what we know of the row: it is a new block to us -/
theorem inplace_sound {x : Value} {n off len c' bl : Nat} {s : Ref} {cs old new news : List Value} (hH : HR ρ H nx w.heap) (ht : P.underlying t = some (.slice e)) (hi : P.info? e = some i) (hz : i.size = z)
    (hb : getP H (at_ bl) = some (.cells cs)) (hs : ρ bl = some s) (hold : take? (len * z) (dropN cs off) = some old) (hx : Src P w e z t2 x n news) (hrn : VRs ρ new news) (hnl : new.length = n * z) (h1 : allOne new = true)
    (hroom : len + n ≤ c') (hcm : c' ≤ capMax) (hp : s.sh + off + c' * z ≤ s.size)
    (hk : k (slTo nx z (len + n) (2 * (len + n))) (insP (at_ nx) (insP (at_ bl) H none) (some (.cells (old ++ new)))) (nx + 1) = some r) :
    Good P w ρ H nx r k (do pure (.value (← Builtin.append_ #[t, t2] ty #[.slice (some ⟨s.blk, s.sh + off, none⟩) len c', x]))) := by
  obtain ⟨s', hs', a, et, ha, hsz, hcell⟩ := hH.blk bl _ hb
  rw [hs] at hs'; cases hs'
  obtain ⟨t1, t2'⟩ := take?_get hold
  have hnews := hrn.length
  have hmul : len * z + n * z ≤ c' * z := by rw [← Nat.add_mul]; exact Nat.mul_le_mul_right _ hroom
  have hst := run_storeCells_at P s.blk (s.sh + off + len * z) et news 0 a w ha (by simp; omega) (hrn.one h1)
  have hrun := app_room (ty := ty) ht hi hz hx hroom hst
  have hown : Own ρ H s.blk := ⟨bl, _, s, hb, rfl, hs, rfl⟩
  refine ⟨_, _, nx + 1, .slice (some ⟨s.blk, s.sh + off, none⟩) (len + n) c', w.setRow s.blk (a.toList.take (s.sh + off + len * z + 0) ++ news ++ a.toList.drop (s.sh + off + len * z + 0 + news.length)).toArray, ρ.with nx ⟨s.blk, s.sh + off, s.size⟩, hk, .inl (by simp only [Sem.run_bind, hrun, Result.andThen_ok, Sem.run_pure]), slTo_VR ⟨hroom, hcm⟩ ⟨rfl, hp⟩, ?_, ⟨hH.ext_with _, fun j hj => ?_, (Ros.put _ _ _).trans (.forget _ _), fun j hj hn => ?_, by simp, rfl, rfl, rfl⟩, Nat.le_succ _, fun b hb => Rho.with_ne _ _ (by omega)⟩
  · refine (hH.forget bl).make (r := ⟨s.blk, s.sh + off, s.size⟩) (fun b1 y s1 hb1 hs1 => ?_) ⟨_, et, setRow_heap w s.blk a _ et _ ha, ?_, fun j y hj => ?_⟩
    · have hne : b1 ≠ bl := by
        intro e'; subst e'
        rw [getP_insP] at hb1; cases hb1
      rw [getP_insP_ne _ _ _ _ (fun e' => hne (at_inj e'))] at hb1
      have hblk : s1.blk ≠ s.blk := fun e' => hne (hH.inj bl b1 _ y s s1 hb hb1 rfl hs hs1 e'.symm).symm
      exact ⟨setRow_other w s.blk s1.blk _ hblk, hblk⟩
    · simp; omega
    · have ext := hH.ext_with ⟨s.blk, s.sh + off, s.size⟩
      simp only [Nat.add_zero, List.getElem?_toArray]
      by_cases c1 : j < len * z
      · rw [List.getElem?_append_left (by rw [t1]; exact c1), t2' j c1, dropN_eq, List.getElem?_drop] at hj
        obtain ⟨y', hy', hv⟩ := hcell _ _ hj
        refine ⟨y', ?_, hv.mono ext⟩
        have hlt := (Array.getElem?_eq_some_iff.1 hy').1
        rw [List.getElem?_append_left (by simp; omega), List.getElem?_append_left (by simp; omega), List.getElem?_take, if_pos (by omega)]
        rw [Array.getElem?_toList, ← hy']; congr 1; omega
      · have t1' : old.length = len * z := t1
        rw [List.getElem?_append_right (by omega)] at hj
        obtain ⟨y', hy', hv⟩ := hrn.get hj
        have hlt := (List.getElem?_eq_some_iff.1 hy').1
        refine ⟨y', ?_, hv.mono ext⟩
        rw [List.getElem?_append_left (by simp; omega), List.getElem?_append_right (by simp; omega)]
        simp only [List.length_take, Array.length_toList]
        rw [← hy']; congr 1; omega
  · rcases Own.of_make hj with h | h
    · have h' : j = s.blk := h
      subst h'
      exact .inl hown
    · exact .inl (Own.of_forget h)
  · exact setRow_other w s.blk j _ fun e' => hn (by rw [e']; exact hown)
end Go.Eng
/- The engine: append, joined; the calls of built-in functions. -/
namespace Go.Eng
variable {P : Program} {w : World} {ρ : Rho} {H : Heap} {nx : Nat} {r : Ex × St} {T : Tr Value} {L : List Value} {ρa ρc : Operand → Value} {o : Oper} {k : KA} {ins : List Nat}
variable {t t2 ty e : TypeId} {z : Nat} {i : TypeInfo}

theorem appSrc_sound {bytes : Nat} {zero : List Value} {zv : Value} {zeros : Bool} {x u : Value} {K : Nat → List Value → R0} (hi : P.info? e = some i) (hz : i.size = z) (hb : i.bytes = bytes) (hzv : i.zero = some zv) (hzero : zero = zv.cells.toList) (hzl : zero.length = z) (hzr : VRs ρ zero zero)
    (hty : (zeros = true ∧ ∃ ki, P.underlying t2 = some (.int ki)) ∨ (zeros = false ∧ ∃ e2, P.underlying t2 = some (.slice e2))) (hH : HR ρ H nx w.heap) (hv : VR ρ x u) (h : appSrc z bytes zero zeros H x K = some r) :
    ∃ n new news, K n new = some r ∧ new.length = n * z ∧ VRs ρ new news ∧ Src P w e z t2 u n news := by
  rcases hty with ⟨rfl, ki, ht⟩ | ⟨rfl, e2, ht⟩
  · have h' : onNat x (appZ bytes zero K) = some r := h
    obtain ⟨kq, n, rfl, h1⟩ := onNat_some h'
    obtain ⟨hc, h2⟩ := cond_some h1
    simp only [Bool.and_eq_true] at hc
    rw [hv.int_inv]
    refine ⟨n, repeatN zero n, repeatN zero n, h2, by rw [repeatN_length, hzl], hzr.rep n, ?_⟩
    rw [hzero]
    refine .zeros ht hi hzv ?_ (Nat.le_of_ble_eq_true hc.1) (by rw [hb]; exact Nat.le_of_ble_eq_true hc.2)
    rw [← hzl, hzero]; simp
  · have h' : srcK H z K x = some r := h
    obtain ⟨n, cs, h1, hl, ⟨base, len, c, rfl, hlen⟩, hfirst⟩ := src_sound (P := P) hH hv h'
    subst hlen
    obtain ⟨cs', hr, hrun⟩ := hfirst len (Nat.le_refl _)
    rw [List.take_of_length_le (by omega)] at hr
    exact ⟨len, cs, cs', h1, hl, hr, .cells ht hrun⟩

theorem append_sound {bytes : Nat} {zero : List Value} {zv : Value} {zeros : Bool} {s x u v : Value} (ht : P.underlying t = some (.slice e)) (hi : P.info? e = some i) (hz : i.size = z) (hb : i.bytes = bytes) (hzv : i.zero = some zv) (hzero : zero = zv.cells.toList) (hzl : zero.length = z) (hzr : VRs ρ zero zero)
    (hty : (zeros = true ∧ ∃ ki, P.underlying t2 = some (.int ki)) ∨ (zeros = false ∧ ∃ e2, P.underlying t2 = some (.slice e2))) (hH : HR ρ H nx w.heap) (hs : VR ρ s u) (hx : VR ρ x v)
    (h : appSrc z bytes zero zeros H x (appV z bytes H nx k s) = some r) : Good P w ρ H nx r k (do pure (.value (← Builtin.append_ #[t, t2] ty #[u, v]))) := by
  obtain ⟨n, new, news, h1, hnl, hrn, hsrc⟩ := appSrc_sound (w := w) hi hz hb hzv hzero hzl hzr hty hH hx h
  have hzs : zv.cells.size = z := by rw [← hzl, hzero]; simp
  have same : ∀ {b : Option Addr} {len cap : Nat}, n = 0 → u = .slice b len cap → len ≤ cap → k s H nx = some r → Good P w ρ H nx r k (do pure (.value (← Builtin.append_ #[t, t2] ty #[u, v]))) := by
    intro b len cap hn hu hle hk
    subst hn; subst hu
    have hnews : news = [] := by
      have := hrn.length
      apply List.eq_nil_of_length_eq_zero
      rw [this, hnl]; simp
    exact .same hH hs hk (by simp only [Sem.run_bind, app_none (ty := ty) ht hi hz hsrc hnews hle, Result.andThen_ok, Sem.run_pure])
  unfold appV at h1
  split at h1
  · cases hs with
    | sc h => simp [scalar] at h
    | snil =>
      cases hn : Nat.beq n 0 with
      | true =>
        rw [hn] at h1
        exact same (Nat.eq_of_beq_eq_true hn) rfl (Nat.le_refl _) h1
      | false =>
        rw [hn] at h1
        obtain ⟨_, h2⟩ := cond_some h1
        have hn' := Nat.ne_of_beq_eq_false hn
        exact grow_sound hH ht hi hz hb hzv hzs hsrc (olds := []) (old := []) (fun w' _ => by simp [Builtin.firstCells, Sem.run_pure]) .nil hrn (by simp) hnl (by omega) h2
  · rename_i b off z' len c
    obtain ⟨hc, h2⟩ := cond_some h1
    simp only [Bool.and_eq_true] at hc
    have hz' := Nat.eq_of_beq_eq_true hc.1
    subst hz'
    clear h1
    have h1c := hc.2.2
    cases hs with
    | sc h => simp [scalar] at h
    | @sl _ _ _ _ _ p c' rf hrf hl hsc he hp =>
      have hs : VR ρ (.slice (some ⟨b, off, some z⟩) len c) (.slice (some ⟨rf.blk, p, none⟩) len c') := .sl hrf hl hsc he hp
      cases hn : Nat.beq n 0 with
      | true =>
        rw [hn] at h2
        exact same (Nat.eq_of_beq_eq_true hn) rfl hl.1 h2
      | false =>
        rw [hn] at h2
        have hn' := Nat.ne_of_beq_eq_false hn
        cases hroom : Nat.ble (Nat.add len n) (sureCap c) with
        | true =>
          rw [hroom] at h2
          have hroom' : len + n ≤ sureCap c := Nat.le_of_ble_eq_true hroom
          have hp' : p = rf.sh + off ∧ p + c' * z ≤ rf.size := by
            rcases hp with h0 | h0
            · omega
            · exact h0
          have h3 : appIn z H nx k b off len c n new = some r := h2
          unfold appIn at h3
          obtain ⟨cs, hb', h4⟩ := cellsK_some h3
          obtain ⟨l, hov, h5⟩ := bd_eq h4
          rw [put1_eq] at h5
          have hov' : over cs (off + len * z) new = some l := hov
          obtain ⟨w', g1, g2, g3⟩ := store_sound (P := P) hH hb' hrf hov' hrn h1c
          have g1' : (storeCells ⟨rf.blk, p + len * z, none⟩ news).run P w = .ok () w' := by
            rw [hp'.1, Nat.add_assoc]; exact g1
          have hrun := app_room (ty := ty) ht hi hz hsrc (Nat.le_trans hroom' hsc) g1'
          refine ⟨_, _, nx, .slice (some ⟨rf.blk, p, none⟩) (len + n) c', w', ρ, h5, .inl (by simp only [Sem.run_bind, hrun, Result.andThen_ok, Sem.run_pure]), ?_, g2, g3, Nat.le_refl _, fun _ _ => rfl⟩
          exact .sl hrf ⟨(show len + n ≤ c' by omega), hl.2⟩ hsc he (.inr hp')
        | false =>
          rw [hroom] at h2
          have hnr : ¬ (len + n ≤ sureCap c) := fun hle => by
            have : Nat.ble (Nat.add len n) (sureCap c) = true := Nat.ble_eq_true_of_le hle
            rw [hroom] at this; cases this
          have h3 : appOff z bytes H nx k b off len c n new = some r := h2
          unfold appOff at h3
          obtain ⟨cs, hb', h4⟩ := cellsK_some h3
          obtain ⟨old, hold, h5⟩ := bd_eq h4
          have hold' : take? (len * z) (dropN cs off) = some old := hold
          obtain ⟨t1, t2'⟩ := take?_get hold'
          -- what is there already
          have hold2 : ∃ olds, VRs ρ old olds ∧ ∀ w' : World, w'.heap = w.heap → (Builtin.firstCells z len (.slice (some ⟨rf.blk, p, none⟩) len c')).run P w' = .ok ⟨olds⟩ w' := by
            have hsk : srcK H z (fun n1 cs1 => open Classical in if n1 = len ∧ cs1 = old then some r else none) (.slice (some ⟨b, off, some z⟩) len c) = some r := by
              unfold srcK
              have hzz : Nat.beq z z = true := by simp
              simp only [hzz, cond_true]
              cases h0 : Nat.beq len 0 with
              | true =>
                have := Nat.eq_of_beq_eq_true h0
                subst this
                have : old = [] := List.eq_nil_of_length_eq_zero (by rw [t1]; simp)
                subst this
                simp
              | false =>
                unfold cellsR onRead
                rw [hb']
                show bd (take? (Nat.mul len z) (dropN cs off)) (fun cs1 => open Classical in if len = len ∧ cs1 = old then some r else none) = some r
                have : take? (Nat.mul len z) (dropN cs off) = some old := hold
                rw [this]
                show (open Classical in if len = len ∧ old = old then some r else none) = some r
                simp
            obtain ⟨n1, cs1, q1, q2, _, q5⟩ := src_sound (P := P) hH hs hsk
            have q1' : n1 = len ∧ cs1 = old := by
              by_cases hq : n1 = len ∧ cs1 = old
              · exact hq
              · simp [hq] at q1
            obtain ⟨rfl, rfl⟩ := q1'
            obtain ⟨olds, g1, g2⟩ := q5 n1 (Nat.le_refl _)
            rw [List.take_of_length_le (by omega)] at g1
            exact ⟨olds, g1, g2⟩
          obtain ⟨olds, hro, ho⟩ := hold2
          cases hex : exact c with
          | true =>
            rw [hex] at h5
            have := he hex
            exact grow_sound hH ht hi hz hb hzv hzs hsrc ho hro hrn t1 hnl (by omega) h5
          | false =>
            rw [hex] at h5
            have h6 : appNew z bytes (insP (at_ b) H none) nx k len n old new = some r := by
              have h7 : setP (at_ b) H none (fun H => appNew z bytes H nx k len n old new) = some r := h5
              rwa [setP_eq] at h7
            by_cases hin : len + n ≤ c'
            · obtain ⟨_, _, hk⟩ := appNew_some h6
              have hp' : p = rf.sh + off ∧ p + c' * z ≤ rf.size := by
                rcases hp with h0 | h0
                · omega
                · exact h0
              rw [hp'.1]
              exact inplace_sound hH ht hi hz hb' hrf hold' hsrc hrn hnl h1c hin hl.2 (by rw [← hp'.1]; exact hp'.2) hk
            · exact (grow_sound (hH.forget b) ht hi hz hb hzv hzs hsrc ho hro hrn t1 hnl (by omega) h6).pre (fun j hj => Own.of_forget hj) (.forget _ _)
  · cases h1

theorem Good.congr {s s' : Sem Next} (e : s = s') (h : Good P w ρ H nx r k s') : Good P w ρ H nx r k s := e ▸ h

theorem len_ts {ts : Array TypeId} {u : Value} (h : ts[0]? = some t) : Builtin.len_ ts ty #[u] = Builtin.len_ #[t] ty #[u] := by
  simp [Builtin.len_, h]

theorem cap_ts {ts : Array TypeId} {u : Value} (h : ts[0]? = some t) : Builtin.cap_ ts ty #[u] = Builtin.cap_ #[t] ty #[u] := by
  simp [Builtin.cap_, h]

theorem builtin_op {b : Builtin} {d : Call} (ho : o.op = .call d) (hb : d.callee = .builtin b) : (execOp ρc o) = builtin b d.argTypes o.type (d.args.map fun | .const _ => true | _ => false) (d.args.map ρc) := by
  simp only [execOp, ho, resolve, hb]
  rfl

theorem args_eq {d : Call} {l : List Operand} (h : d.args.toList = l) : d.args.map ρc = (l.map ρc).toArray := by
  apply Array.ext'
  simp [h]

theorem ts_head {ts : Array TypeId} {l : List TypeId} (h : ts.toList = t :: l) : ts[0]? = some t := by
  rw [← Array.getElem?_toList, h]; rfl

theorem ts_two {ts : Array TypeId} (h : ts.toList = [t, t2]) : ts = #[t, t2] := by
  apply Array.ext'; rw [h]

theorem bytes_of {e : TypeId} {z n : Nat} {zero : List Value} (hz : sizeAt P e = some z) (hb : bytesAt P e = some n) (hzc : zeroCells P e = some zero) : ∃ i zv, P.info? e = some i ∧ i.size = z ∧ i.bytes = n ∧ i.zero = some zv ∧ zero = zv.cells.toList := by
  unfold sizeAt at hz
  unfold bytesAt at hb
  obtain ⟨zv, h1, h2⟩ := zeroCells_some hzc
  unfold zeroVal at h1
  cases hi : P.info? e with
  | none => rw [hi] at hz; cases hz
  | some i =>
    rw [hi] at hz hb h1
    simp at hz hb
    simp only at h1
    cases hzz : i.zero with
    | none => rw [hzz] at h1; cases h1
    | some zv' =>
      rw [hzz] at h1
      simp only at h1
      cases hc : constOk zv' with
      | false => rw [hc] at h1; cases h1
      | true =>
        rw [hc] at h1
        cases h1
        exact ⟨i, zv, rfl, hz, hb, hzz, h2⟩

theorem allOne_append : ∀ {a b : List Value}, allOne a = true → allOne b = true → allOne (a ++ b) = true := by
  intro a
  induction a with
  | nil => intro b _ hb; exact hb
  | cons x a iha =>
    intro b ha hb
    have ha' : cond (oneC x) (allOne a) false = true := ha
    show cond (oneC x) (allOne (a ++ b)) false = true
    cases hx : oneC x with
    | false => rw [hx] at ha'; cases ha'
    | true => rw [hx] at ha'; exact iha ha' hb
theorem allOne_rep {z : List Value} (h : allOne z = true) : ∀ n, allOne (repeatN z n) = true := by
  intro n
  induction n with
  | zero => rfl
  | succ n ih => exact allOne_append h ih

theorem clear_sound {ts : Array TypeId} {e : TypeId} {zero : List Value} {x : Operand} {cs : Array Bool} (hat : ts[0]? = some t) (hu : P.underlying t = some (.slice e)) (hzc : zeroCells P e = some zero) (hH : HR ρ H nx w.heap) (hv : VR ρ (ρa x) (ρc x))
    (h : actT ((AOp.clr x zero).map (Av ρa)) P T L H nx k = some r) : Good P w ρ H nx r k (builtin .clear ts ty cs ([x].map ρc).toArray) := by
  have h' : clrV zero H nx k (ρa x) = some r := h
  generalize ρa x = v at hv h'
  show Good P w ρ H nx r k (do pure (.value (← Builtin.clear_ ts ty #[ρc x])))
  generalize ρc x = u at hv
  have fin : ∀ w' : World, (Builtin.clear_ ts ty #[u]).run P w = .ok undef w' → (do pure (.value (← Builtin.clear_ ts ty #[u])) : Sem Next).run P w = .ok (.value undef) w' := by
    intro w' hw
    simp only [Sem.run_bind, hw, Result.andThen_ok, Sem.run_pure]
  unfold clrV at h'
  split at h'
  · cases hv with
    | sc h => simp [scalar] at h
    | snil => exact .same hH (.tuple .nil) h' (fin w (by simp [Builtin.clear_, hat, run_underlying hu]; rfl))
  · rename_i b o z n cp
    cases hv with
    | sc h => simp [scalar] at h
    | @sl _ _ _ _ _ p c' s hs hl hsc he hp =>
      cases hn : Nat.beq n 0 with
      | true =>
        rw [hn] at h'
        have := Nat.eq_of_beq_eq_true hn
        subst this
        exact .same hH (.tuple .nil) h' (fin w (by simp [Builtin.clear_, hat, run_underlying hu]; rfl))
      | false =>
        rw [hn] at h'
        have hn' := Nat.ne_of_beq_eq_false hn
        obtain ⟨hc, h1⟩ := cond_some h'
        rw [Bool.and_eq_true] at hc
        obtain ⟨old, hb, h2⟩ := cellsK_some h1
        obtain ⟨l, hov, h3⟩ := bd_eq h2
        rw [put1_eq] at h3
        obtain ⟨zv, q1, q2⟩ := zeroCells_some hzc
        obtain ⟨hz1, hz2⟩ := run_zero (w := w) q1
        have hzr := (zeroCells_of (ρ := ρ) hzc q1).2
        have hp' : p = s.sh + o := by rcases hp with h0 | h0 <;> omega
        have h1r : allOne (repeatN zero n) = true := allOne_rep hc.2 n
        obtain ⟨w', g1, g2, g3⟩ := store_sound (P := P) hH hb hs hov (hzr.rep n) h1r
        refine ⟨_, _, nx, undef, w', ρ, h3, .inl (fin w' ?_), (.tuple .nil), g2, g3, Nat.le_refl _, fun _ _ => rfl⟩
        have hz0 : (Builtin.zeroCells zv.cells n).toList = repeatN zero n := by rw [zeroCells_eq, q2]
        subst hp'
        cases n with
        | zero => exact absurd rfl hn'
        | succ n =>
          simp only [Builtin.clear_, hat, List.getElem?_toArray, List.getElem?_cons_zero, Sem.run_bind, run_underlying hu, Result.andThen_ok, hz1, hz0, g1, Sem.run_pure]
          rfl
  · cases h'

theorem builtin_sound {b : Builtin} {d : Call} {a : AOp Operand} (ho : o.op = .call d) (hb : d.callee = .builtin b) (hr : b ≠ .recover) (hc : compileOp P ins o = some a) (ha : a.all fun x => VR ρ (ρa x) (ρc x)) (hH : HR ρ H nx w.heap)
    (h : actT (a.map (Av ρa)) P T L H nx k = some r) : Good P w ρ H nx r k (execOp ρc o) := by
  rw [builtin_op ho hb]
  simp only [compileOp, ho, hb] at hc
  unfold compileBuiltin at hc
  split at hc
  · -- append
    rename_i t t2 s x hts hargs
    rw [args_eq hargs, ts_two hts]
    split at hc
    · rename_i e hu
      have key : ∀ zeros z n zero, sizeAt P e = some z → bytesAt P e = some n → zeroCells P e = some zero → Nat.beq zero.length z = true → ((zeros = true ∧ ∃ ki, P.underlying t2 = some (.int ki)) ∨ (zeros = false ∧ ∃ e2, P.underlying t2 = some (.slice e2))) →
          a = .app z n zero s x zeros → Good P w ρ H nx r k (builtin .append #[t, t2] o.type (d.args.map fun | .const _ => true | _ => false) ([s, x].map ρc).toArray) := by
        intro zeros z n zero hz hn hzc hl hty e
        subst e
        obtain ⟨i, zv, g1, g2, g3, g4, g5⟩ := bytes_of hz hn hzc
        obtain ⟨zv', q1, q2⟩ := zeroCells_some hzc
        have hzr := (zeroCells_of (ρ := ρ) hzc q1).2
        exact append_sound hu g1 g2 g3 g4 g5 (Nat.eq_of_beq_eq_true hl) hzr hty hH ha.1 ha.2 h
      split at hc
      · rename_i z n zero ki hz hn hzc ht2
        cases hl : Nat.beq zero.length z with
        | false => rw [hl] at hc; cases hc
        | true => rw [hl] at hc; cases hc; exact key true z n zero hz hn hzc hl (.inl ⟨rfl, ki, ht2⟩) rfl
      · rename_i z n zero e2 hz hn hzc ht2
        cases hl : Nat.beq zero.length z with
        | false => rw [hl] at hc; cases hc
        | true => rw [hl] at hc; cases hc; exact key false z n zero hz hn hzc hl (.inr ⟨rfl, e2, ht2⟩) rfl
      · cases hc
    · cases hc
  · -- len
    rename_i t l x hts hargs
    rw [args_eq hargs]
    have hl : ∀ u : Value, Builtin.len_ d.argTypes o.type #[u] = Builtin.len_ #[t] o.type #[u] := fun u => len_ts (ts_head hts)
    split at hc
    · rename_i e hu
      cases hc
      exact .look (s := Builtin.len_ #[t] o.type #[ρc x]) (by rw [← hl]; rfl) hH (len_sound hu ha (show lenV (ρa x) (fun v => k v H nx) = some r from h))
    · rename_i hu
      cases hc
      exact .look (s := Builtin.len_ #[t] o.type #[ρc x]) (by rw [← hl]; rfl) hH (sln_sound hu ha (show slnV (ρa x) (fun v => k v H nx) = some r from h))
    · rename_i kt e hu
      cases hc
      exact .look (s := Builtin.len_ #[t] o.type #[ρc x]) (by rw [← hl]; rfl) hH (mln_sound hu hH ha (show mlnV H (ρa x) (fun v => k v H nx) = some r from h))
    · cases hc
  · -- cap
    rename_i t l x hts hargs
    rw [args_eq hargs]
    split at hc
    · rename_i e hu
      cases hc
      exact .look (s := Builtin.cap_ #[t] o.type #[ρc x]) (by rw [← cap_ts (ts_head hts)]; rfl) hH (cap_sound hu ha (show capV (ρa x) (fun v => k v H nx) = some r from h))
    · cases hc
  · -- copy
    rename_i t l x y hts hargs
    rw [args_eq hargs]
    split at hc
    · rename_i e hu
      split at hc
      · rename_i z hz
        cases hc
        exact copy_sound (ts := t) (ts_head hts) hu hz hH ha.1 ha.2 h
      · cases hc
    · cases hc
  · -- min
    cases hc
    have h' : evsK T L ((d.args.toList.map ρa).map Od.cst) (fun vs => bd (flatly P vs (Builtin.min_ #[] 0 vs.toArray)) fun v => k v H nx) = some r := by
      rw [List.map_map]; exact h
    rw [evsK_cst] at h'
    obtain ⟨e1, x, g1, g2, g3⟩ := flatly_sound (w := w) (.map fun x hx => ha x hx) h'
    refine .look (s := Builtin.min_ #[] 0 (d.args.toList.map ρc).toArray) (by rw [← args_eq rfl]; rfl) hH ⟨x, x, g1, ?_, g3⟩
    rw [e1]; exact g2
  · -- max
    cases hc
    have h' : evsK T L ((d.args.toList.map ρa).map Od.cst) (fun vs => bd (flatly P vs (Builtin.max_ #[] 0 vs.toArray)) fun v => k v H nx) = some r := by
      rw [List.map_map]; exact h
    rw [evsK_cst] at h'
    obtain ⟨e1, x, g1, g2, g3⟩ := flatly_sound (w := w) (.map fun x hx => ha x hx) h'
    refine .look (s := Builtin.max_ #[] 0 (d.args.toList.map ρc).toArray) (by rw [← args_eq rfl]; rfl) hH ⟨x, x, g1, ?_, g3⟩
    rw [e1]; exact g2
  · exact absurd rfl hr
  · -- clear
    rename_i t l x hts hargs
    rw [args_eq hargs]
    split at hc
    · rename_i e hu
      split at hc
      · rename_i zero hzc
        cases hc
        exact clear_sound (ts_head hts) hu hzc hH ha h
      · cases hc
    · cases hc
  · cases hc
end Go.Eng
/- The engine: every operation but calls. -/
namespace Go.Eng
variable {P : Program} {w : World} {ρ : Rho} {H : Heap} {nx : Nat} {r : Ex × St} {T : Tr Value} {L : List Value} {ρa ρc : Operand → Value} {o : Oper} {k : KA} {ins : List Nat}

/-- no call, defer, panic, recover, and no 'insert' -/
def AOp.plain {α : Type} : AOp α → Bool
  | .call _ _ | .inv _ _ _ | .dfr _ _ | .pan _ | .rcv | .ins _ _ _ _ _ => false
  | _ => true

theorem act_sound {a : AOp Operand} (hc : compileOp P ins o = some a) (hp : a.plain = true) (ha : a.all fun x => VR ρ (ρa x) (ρc x)) (hH : HR ρ H nx w.heap)
    (h : actT (a.map (Av ρa)) P T L H nx k = some r) : Good P w ρ H nx r k (execOp ρc o) := by
  cases ho : o.op with
  | move x => exact move_sound (.inl ho) hc ha hH h
  | assign x => exact move_sound (.inr ho) hc ha hH h
  | pick c x y => exact pick_sound ho hc ha hH h
  | alloc t => exact alloc_sound ho hc hH h
  | box t x => exact box_sound ho hc ha hH h
  | build t xs => exact build_sound ho hc ha hH h
  | buildSlice t n xs => exact buildSlice_sound ho hc ha hH h
  | load t x => exact load_sound' ho hc ha hH h
  | store t x v => exact storeAt_sound ho hc ha hH h
  | nilCheck x => exact nilCheck_sound ho hc ha hH h
  | binOp op t x y q => exact binOp_sound (b := true) ⟨q, ho⟩ hc ha hH h
  | unOp op t x => exact unOp_sound ho hc ha hH h
  | convert s d x => exact convert_sound ho hc ha hH h
  | makeInterface t x => exact makeInterface_sound ho hc ha hH h
  | makeFunc fn xs ys => exact makeFunc_sound ho hc ha hH h
  | makeMap t x => exact makeMap_sound ho hc ha hH h
  | makeSlice t x y => exact makeSlice_sound ho hc ha hH h
  | slice t x lo hi mx => exact slice_sound ho hc ha hH h
  | fieldAddr s x f => exact fieldAddr_sound ho hc ha hH h
  | field s x f => exact field_sound ho hc ha hH h
  | indexAddr t x i => exact indexAddr_sound ho hc ha hH h
  | index t x i => exact index_sound ho hc ha hH h
  | lookup t x i ok => exact lookup_sound ho hc ha hH h
  | mapUpdate t m q x => exact mapUpdate_sound (.inl ho) hc ha hH h
  | insert t m q x => exact mapUpdate_sound (.inr ho) hc ha hH h
  | mapEntry t m q => exact mapEntry_sound ho hc ha hH h
  | entryStore t m q x => exact entryStore_sound ho hc ha hH h
  | typeAssert x xt t ok => exact typeAssert_sound ho hc ha hH h
  | extract x i => exact extract_sound ho hc ha hH h
  | call d =>
    cases hb : d.callee with
    | builtin b =>
      by_cases hr : b = .recover
      · subst hr
        simp only [compileOp, ho, hb] at hc
        cases hl : d.args.toList with
        | nil =>
          have : a = .rcv := by
            unfold compileBuiltin at hc
            rw [hl] at hc
            cases hts : d.argTypes.toList with
            | nil => rw [hts] at hc; cases hc; rfl
            | cons t l => rw [hts] at hc; cases l <;> (cases hc; rfl)
          subst this
          simp [AOp.plain] at hp
        | cons x l =>
          exfalso
          unfold compileBuiltin at hc
          rw [hl] at hc
          cases hts : d.argTypes.toList with
          | nil => rw [hts] at hc; cases hc
          | cons t l' => rw [hts] at hc; cases l' <;> cases hc
      · exact builtin_sound ho hb hr hc ha hH h
    | value f =>
      exfalso
      cases f with
      | func g =>
        simp only [compileOp, ho, hb] at hc
        cases hg : isIn ins g with
        | true =>
          rw [hg] at hc
          simp only [cond_true] at hc
          split at hc
          · split at hc
            · split at hc
              · cases hc; simp [AOp.plain] at hp
              · cases hc
            · cases hc
          · cases hc
        | false => rw [hg] at hc; cases hc; simp [AOp.plain] at hp
      | _ => simp only [compileOp, ho, hb] at hc; cases hc; simp [AOp.plain] at hp
    | invoke x name =>
      simp only [compileOp, ho, hb] at hc
      cases hc; simp [AOp.plain] at hp
  | defer d =>
    simp only [compileOp, ho] at hc
    split at hc
    · cases hc; simp [AOp.plain] at hp
    · cases hc
  | panic x => simp only [compileOp, ho] at hc; cases hc; simp [AOp.plain] at hp
  | _ => simp only [compileOp, ho] at hc; cases hc
end Go.Eng
/- The engine: what is known of the slots. -/
namespace Go.Eng
variable {P : Program} {ρ : Rho} {T : Tr Value} {L : List Value} {kept : List Nat} {n : Nat} {env : Env} {a : Act}

/-- the slots' values, as the engine has them -/
structure EnvR (ρ : Rho) (kept : List Nat) (n : Nat) (env : Env) (T : Tr Value) (L : List Value) (a : Act) : Prop where
  size : n ≤ a.tmps.size
  env : ∀ t od, find env t = some od → VR ρ ((valO T L od).getD undef) (a.tmps.getD t undef)
  kept : ∀ t, isIn kept t = true → VR ρ ((getP T (slotPath t)).getD undef) (a.tmps.getD t undef)

theorem VR.undef : VR ρ undef undef := .tuple .nil

theorem EnvR.mono {ρ' : Rho} (e : Ext ρ ρ') (h : EnvR ρ kept n env T L a) : EnvR ρ' kept n env T L a :=
  ⟨h.size, fun t od ht => (h.env t od ht).mono e, fun t ht => (h.kept t ht).mono e⟩

theorem cv_sound (h : EnvR ρ kept n env T L a) {x : Operand} {od : Od} (hc : cv kept n env x = some od) : VR ρ ((valO T L od).getD undef) (a.eval x) := by
  cases x with
  | tmp t =>
    simp only [cv] at hc
    cases hb : Nat.blt t n with
    | false => rw [hb] at hc; cases hc
    | true =>
      rw [hb] at hc
      simp only [cond_true] at hc
      cases hf : find env t with
      | some y => rw [hf] at hc; cases hc; exact h.env t _ hf
      | none =>
        rw [hf] at hc
        cases hk : isIn kept t with
        | false => rw [hk] at hc; cases hc
        | true => rw [hk] at hc; cases hc; exact h.kept t hk
  | const v =>
    simp only [cv] at hc
    cases hk : constOk v with
    | false => rw [hk] at hc; cases hc
    | true => rw [hk] at hc; cases hc; exact .of_const hk
  | func f => cases hc; exact .func .nil .nil
  | global g => cases hc

theorem isVar_iff {p : List Bool} {od : Od} : isVar p od = true ↔ od = .var p := by
  have same : ∀ p q : List Bool, samePath p q = true ↔ p = q := by
    intro p
    induction p with
    | nil => intro q; cases q <;> simp [samePath]
    | cons b p ih => intro q; cases q with
      | nil => cases b <;> simp [samePath]
      | cons c q => cases b <;> cases c <;> simp [samePath, ih]
  cases od with
  | var q =>
    unfold isVar
    rw [same]
    constructor
    · intro h; rw [h]
    · intro h; cases h; rfl
  | _ => simp [isVar]

theorem valO_shift (v : Value) (od : Od) : valO T (v :: L) (shift od) = valO T L od := by
  cases od <;> rfl

theorem find_shift : ∀ (env : Env) (t : Nat), find (shiftAll env) t = (find env t).map shift := by
  intro env
  induction env with
  | nil => intro t; rfl
  | cons p env ih =>
    intro t
    obtain ⟨u, x⟩ := p
    show (bif Nat.beq u t then some (shift x) else find (shiftAll env) t) = Option.map shift (bif Nat.beq u t then some x else find env t)
    cases Nat.beq u t with
    | true => rfl
    | false => exact ih t

theorem find_without : ∀ (env : Env) (d t : Nat), find (without env d) t = if t = d then none else find env t := by
  intro env
  induction env with
  | nil => intro d t; simp [without, find]
  | cons p env ih =>
    intro d t
    obtain ⟨u, x⟩ := p
    have ih' := ih d t
    unfold without at ih' ⊢
    rw [List.filter_cons]
    by_cases hu : u = d
    · subst hu
      simp only [Nat.beq_refl, Bool.not_true, Bool.false_eq_true, if_false]
      rw [ih']
      by_cases ht : t = u
      · simp [ht]
      · rw [if_neg ht, if_neg ht]
        show find env t = (bif Nat.beq u t then some x else find env t)
        have : Nat.beq u t = false := by
          cases hb : Nat.beq u t with
          | false => rfl
          | true => exact absurd (Nat.eq_of_beq_eq_true hb).symm ht
        rw [this]; rfl
    · have hb : (!(Nat.beq u d)) = true := by
        cases hb : Nat.beq u d with
        | false => rfl
        | true => exact absurd (Nat.eq_of_beq_eq_true hb) hu
      simp only [hb, if_true]
      show (bif Nat.beq u t then some x else find (env.filter fun p => !(Nat.beq p.1 d)) t) = if t = d then none else (bif Nat.beq u t then some x else find env t)
      cases hut : Nat.beq u t with
      | true =>
        have := Nat.eq_of_beq_eq_true hut
        subst this
        rw [if_neg hu]; rfl
      | false => exact ih'

/-- an operation's value is put away -/
theorem EnvR.put {v u : Value} {d : Nat} {keep : Option (List Bool)} {T' : Tr Value} (h : EnvR ρ kept n env T L a) (hv : VR ρ v u) (hd : d < n)
    (hT : (keep = none ∧ T' = T ∧ isIn kept d = false) ∨ (∃ p, keep = some p ∧ p = slotPath d ∧ T' = insP p T (some v) ∧ (shiftAll env).any (fun e => isVar p e.2) = false)) :
    EnvR ρ kept n ((d, .loc 0) :: without (shiftAll env) d) T' (v :: L) (a.put (some d) u) := by
  have hget : ∀ t, (a.put (some d) u).tmps.getD t undef = if t = d then u else a.tmps.getD t undef := by
    intro t
    have hds : d < a.tmps.size := Nat.lt_of_lt_of_le hd h.size
    show (a.tmps.setIfInBounds d u).getD t undef = _
    simp only [Array.getD_eq_getD_getElem?, Array.getElem?_setIfInBounds]
    by_cases ht : d = t
    · subst ht; simp [hds]
    · rw [if_neg ht, if_neg (fun e => ht e.symm)]
  refine ⟨by show n ≤ (a.tmps.setIfInBounds d u).size; simpa using h.size, fun t od ht => ?_, fun t ht => ?_⟩
  · rw [hget]
    by_cases htd : t = d
    · subst htd
      have : od = .loc 0 := by
        unfold find at ht
        simp at ht
        exact ht.symm
      subst this
      rw [if_pos rfl]
      exact hv
    · rw [if_neg htd]
      have hf : find (without (shiftAll env) d) t = some od := by
        have hb : Nat.beq d t = false := by
          cases hb : Nat.beq d t with
          | false => rfl
          | true => exact absurd (Nat.eq_of_beq_eq_true hb).symm htd
        simp only [find] at ht
        rw [hb] at ht
        exact ht
      rw [find_without, if_neg htd, find_shift] at hf
      cases he : find env t with
      | none => rw [he] at hf; cases hf
      | some x =>
        rw [he] at hf
        cases hf
        have h0 := h.env t x he
        have hval : valO T' (v :: L) (shift x) = valO T (v :: L) (shift x) := by
          rcases hT with ⟨_, rfl, _⟩ | ⟨p, _, _, rfl, hany⟩
          · rfl
          · cases x with
            | var q =>
              have hne : q ≠ p := by
                intro e; subst e
                have hmem : ∀ (env : Env) (t : Nat) (x : Od), find env t = some x → (t, x) ∈ env := by
                  intro env
                  induction env with
                  | nil => intro t x hx; cases hx
                  | cons y env ih =>
                    intro t x hx
                    obtain ⟨a, b⟩ := y
                    unfold find at hx
                    cases hb : Nat.beq a t with
                    | true =>
                      rw [hb] at hx; cases hx
                      have := Nat.eq_of_beq_eq_true hb
                      subst this
                      exact List.mem_cons_self
                    | false => rw [hb] at hx; exact List.mem_cons_of_mem _ (ih t x hx)
                have h1 := hmem _ _ _ he
                have h2 : (t, shift (.var q)) ∈ shiftAll env := List.mem_map.2 ⟨_, h1, rfl⟩
                have h3 := List.any_eq_false.1 hany _ h2
                exact h3 (isVar_iff.2 rfl)
              show getP (insP p T (some v)) q = getP T q
              exact getP_insP_ne _ _ _ _ hne
            | _ => rfl
        rw [hval, valO_shift]
        exact h0
  · rw [hget]
    rcases hT with ⟨_, rfl, hk⟩ | ⟨p, _, rfl, rfl, _⟩
    · have : t ≠ d := by intro e; subst e; rw [hk] at ht; cases ht
      rw [if_neg this]
      exact h.kept t ht
    · by_cases htd : t = d
      · subst htd
        rw [if_pos rfl, getP_insP]
        exact hv
      · rw [if_neg htd, getP_insP_ne _ _ _ _ (by rw [slotPath_eq, slotPath_eq]; exact fun e => htd (at_inj e))]
        exact h.kept t ht
end Go.Eng
/- The engine: what it means that a run is right. -/
namespace Go.Eng

inductive ChRs (ρ : Rho) : List PanicEntry → List PanicEntry → Prop
  | nil : ChRs ρ [] []
  | cons {e e' : PanicEntry} {l l' : List PanicEntry} (hv : VR ρ e.v e'.v) (hr : e'.recovered = e.recovered) (hg : e'.goexit = e.goexit) (h : ChRs ρ l l') : ChRs ρ (e :: l) (e' :: l')

theorem ChRs.mono {ρ ρ' : Rho} (e : Ext ρ ρ') {l l' : List PanicEntry} (h : ChRs ρ l l') : ChRs ρ' l l' := by
  induction h with
  | nil => exact .nil
  | cons hv hr hg _ ih => exact .cons (hv.mono e) hr hg ih

/-- a deferred call -/
def DfR (ρ : Rho) (x : Dfd) (d : Deferred) : Prop :=
  ∃ f a a' c c' vs, x.1 = .func (.func f) ⟨a⟩ ⟨c⟩ ∧ d = { target := .fn (.func f) ⟨c'⟩, args := ⟨a' ++ vs⟩ } ∧ VRs ρ a a' ∧ VRs ρ c c' ∧ VRs ρ x.2 vs

inductive DfRs (ρ : Rho) : List Dfd → List Deferred → Prop
  | nil : DfRs ρ [] []
  | cons {x : Dfd} {d : Deferred} {l : List Dfd} {l' : List Deferred} (hx : DfR ρ x d) (h : DfRs ρ l l') : DfRs ρ (x :: l) (d :: l')

theorem DfR.mono {ρ ρ' : Rho} (e : Ext ρ ρ') {x : Dfd} {d : Deferred} (h : DfR ρ x d) : DfR ρ' x d := by
  obtain ⟨f, a, a', c, c', vs, h1, h2, h3, h4, h5⟩ := h
  exact ⟨f, a, a', c, c', vs, h1, h2, h3.mono e, h4.mono e, h5.mono e⟩

theorem DfRs.mono {ρ ρ' : Rho} (e : Ext ρ ρ') {l : List Dfd} {l' : List Deferred} (h : DfRs ρ l l') : DfRs ρ' l l' := by
  induction h with
  | nil => exact .nil
  | cons hx _ ih => exact .cons (hx.mono e) ih

/-- from one state to another, with the numbers of the blocks that were made -/
structure Went (ρ : Rho) (H : Heap) (nx : Nat) (w : World) (ρ' : Rho) (H' : Heap) (nx' : Nat) (w' : World) : Prop where
  hr : HR ρ' H' nx' w'.heap
  stp : Stp ρ H w ρ' H' w'
  le : nx ≤ nx'
  low : ∀ b, b < nx → ρ' b = ρ b

theorem Went.refl {ρ : Rho} {H : Heap} {nx : Nat} {w : World} (h : HR ρ H nx w.heap) : Went ρ H nx w ρ H nx w := ⟨h, .refl ρ H w, Nat.le_refl _, fun _ _ => rfl⟩

theorem Went.trans {ρ ρ1 ρ2 : Rho} {H H1 H2 : Heap} {nx nx1 nx2 : Nat} {w w1 w2 : World} (h : Went ρ H nx w ρ1 H1 nx1 w1) (h' : Went ρ1 H1 nx1 w1 ρ2 H2 nx2 w2) : Went ρ H nx w ρ2 H2 nx2 w2 :=
  ⟨h'.hr, h.stp.trans h'.stp, Nat.le_trans h.le h'.le, fun b hb => (h'.low b (Nat.lt_of_lt_of_le hb h.le)).trans (h.low b hb)⟩

/-- how a call ends -/
def RetR (ρ : Rho) (H : Heap) (nx : Nat) (w : World) (c : CRet) (e : Ending) (w' : World) : Prop := match c with
  | .ok v H' nx' => ∃ u ρ', e = .returned u ∧ VR ρ' v u ∧ Went ρ H nx w ρ' H' nx' w'
  | .pan ch H' nx' => ∃ ch' ρ', e = .panicked ch' ∧ ChRs ρ' ch ch' ∧ Went ρ H nx w ρ' H' nx' w'

/-- a function that is entered when it is called -/
def Entered (P : Program) (g : FuncId) : Prop := ∃ fn, P.funcs[g]? = some fn ∧ fn.body.isNone = false ∧ (fn.name == "runtime.NumGoroutine") = false

theorem Entered.run {P : Program} {g : FuncId} {w : World} {args : Array Value} (h : Entered P g) : (callFunc g args).run P w = .ok (.enter g args) w := by
  obtain ⟨fn, h1, h2, h3⟩ := h
  have hp : (program).run P w = .ok P w := rfl
  simp only [callFunc, Sem.run_bind, hp, Result.andThen_ok, h1, h2, h3, Bool.false_eq_true, if_false, Sem.run_pure]

def CallOk (P : Program) (r : Run) : Prop := ∀ g vs H nx c, r.call g vs H nx = some c → Entered P g ∧ ∀ ρ us w, VRs ρ vs us → HR ρ H nx w.heap → Calls P g ⟨us⟩ w (RetR ρ H nx w c)

def ExR (ρ : Rho) : Ex → Exit → Prop
  | .normal, .normal => True
  | .exit i, .exit j => i = j
  | .ret, .ret => True
  | .panic ch, .panic ch' => ChRs ρ ch ch'
  | _, _ => False

/-- a function's slots and what it has deferred -/
structure ActR (ρ : Rho) (kept : List Nat) (n : Nat) (T : Tr Value) (D : List Dfd) (a : Act) : Prop where
  env : EnvR ρ kept n [] T [] a
  dfr : DfRs ρ D a.defers

def OutR (ρ : Rho) (H : Heap) (nx : Nat) (w : World) (kept : List Nat) (n : Nat) (o : Ex × St) (e : Exit) (a' : Act) (w' : World) : Prop :=
  ∃ ρ', Went ρ H nx w ρ' o.2.H o.2.nx w' ∧ ActR ρ' kept n o.2.T o.2.D a' ∧ ExR ρ' o.1 e

def CodeOk (P : Program) (ins kept : List Nat) (n : Nat) (f : RC) (c : Code) : Prop :=
  ∀ T D H nx o, f T D H nx = some o → ∀ ρ a w, HR ρ H nx w.heap → ActR ρ kept n T D a → c.wp P (OutR ρ H nx w kept n o) a w
end Go.Eng
/- The engine: code. -/
namespace Go.Eng
variable {P : Program} {ins kept : List Nat} {n : Nat}

theorem OutR.trans {ρ ρ1 : Rho} {H H1 : Heap} {nx nx1 : Nat} {w w1 : World} {o : Ex × St} {e : Exit} {a' : Act} {w' : World} (h : Went ρ H nx w ρ1 H1 nx1 w1) (h' : OutR ρ1 H1 nx1 w1 kept n o e a' w') : OutR ρ H nx w kept n o e a' w' := by
  obtain ⟨ρ', h1, h2, h3⟩ := h'
  exact ⟨ρ', h.trans h1, h2, h3⟩

theorem skip_ok : CodeOk P ins kept n cSkip .skip := by
  intro T D H nx o h ρ a w hH ha
  cases h
  exact wp_skip ⟨ρ, .refl hH, ha, trivial⟩

theorem exit_ok {id : Nat} : CodeOk P ins kept n (cExit id) (.exit id) := by
  intro T D H nx o h ρ a w hH ha
  cases h
  exact wp_exit ⟨ρ, .refl hH, ha, rfl⟩

theorem ret_ok : CodeOk P ins kept n cRet .ret := by
  intro T D H nx o h ρ a w hH ha
  cases h
  exact wp_ret ⟨ρ, .refl hH, ha, trivial⟩

/-- what comes after a part that ended as 'o1' says -/
theorem seq_after {k : RC} {Q : Exit → Act → World → Prop} {o1 o : Ex × St} {ρ : Rho} {H : Heap} {nx : Nat} {w : World} {N : Act → World → Prop} (h : seqK k o1 = some o)
    (hk : ∀ st : St, k st.T st.D st.H st.nx = some o → ∀ ρ1 a1 w1, Went ρ H nx w ρ1 st.H st.nx w1 → ActR ρ1 kept n st.T st.D a1 → N a1 w1) {e : Exit} {a1 : Act} {w1 : World} (hq : OutR ρ H nx w kept n o1 e a1 w1) :
    Exit.then N (OutR ρ H nx w kept n o) e a1 w1 := by
  obtain ⟨ex, st⟩ := o1
  obtain ⟨ρ1, g1, g2, g3⟩ := hq
  cases ex with
  | normal =>
    cases e with
    | normal => exact hk st h ρ1 a1 w1 g1 g2
    | _ => exact g3.elim
  | exit i =>
    cases e with
    | exit j => cases h; exact ⟨ρ1, g1, g2, g3⟩
    | _ => exact g3.elim
  | ret =>
    cases e with
    | ret => cases h; exact ⟨ρ1, g1, g2, g3⟩
    | _ => exact g3.elim
  | panic ch =>
    cases e with
    | panic ch' => cases h; exact ⟨ρ1, g1, g2, g3⟩
    | _ => exact g3.elim

theorem seq_ok {f g : RC} {x y : Code} (hf : CodeOk P ins kept n f x) (hg : CodeOk P ins kept n g y) : CodeOk P ins kept n (cSeq f g) (.seq x y) := by
  intro T D H nx o h ρ a w hH ha
  obtain ⟨o1, h1, h2⟩ := bd_eq h
  refine wp_seq (wp_mono (hf T D H nx o1 h1 ρ a w hH ha) fun e a1 w1 hq => ?_)
  exact seq_after (N := y.wp P (OutR ρ H nx w kept n o)) (Q := OutR ρ H nx w kept n o) h2 (fun st hst ρ1 a1 w1 g1 g2 => wp_mono (hg _ _ _ _ o hst ρ1 a1 w1 g1.hr g2) fun e a2 w2 hq => .trans g1 hq) hq

theorem cond_ok {f g : RC} {x y : Code} {c : Operand} {od : Od} (hc : cv kept n ([] : Env) c = some od) (hf : CodeOk P ins kept n f x) (hg : CodeOk P ins kept n g y) : CodeOk P ins kept n (cCond od f g) (.cond c x y) := by
  intro T D H nx o h ρ a w hH ha
  have h' : evK T [] od (fun v => onBool v (f T D H nx) (g T D H nx)) = some o := h
  rw [evK_eq] at h'
  obtain ⟨v, hv, h1⟩ := bd_eq h'
  have hr := cv_sound ha.env hc
  rw [hv] at hr
  rcases onBool_some h1 with ⟨e, h2⟩ | ⟨e, h2⟩
  · subst e
    exact wp_cond_true hr.bool_inv (hf T D H nx o h2 ρ a w hH ha)
  · subst e
    exact wp_cond_false hr.bool_inv (hg T D H nx o h2 ρ a w hH ha)

theorem block_ok {f : RC} {x : Code} {id : Nat} (hf : CodeOk P ins kept n f x) : CodeOk P ins kept n (cBlock id f) (.block id x) := by
  intro T D H nx o h ρ a w hH ha
  obtain ⟨o1, h1, h2⟩ := bd_eq h
  refine wp_block (wp_mono (hf T D H nx o1 h1 ρ a w hH ha) fun e a1 w1 hq => ?_)
  obtain ⟨ex, st⟩ := o1
  obtain ⟨ρ1, g1, g2, g3⟩ := hq
  cases ex with
  | normal =>
    cases e with
    | normal => cases h2; exact ⟨ρ1, g1, g2, trivial⟩
    | _ => exact g3.elim
  | exit i =>
    cases e with
    | exit j =>
      have hij : i = j := g3
      subst hij
      have h3 : cond (Nat.beq i id) (stay .normal st) (stay (.exit i) st) = some o := by
        have h4 : (cond (Nat.beq i id) (stay .normal) (stay (.exit i))) st = some o := h2
        cases hb : Nat.beq i id <;> (rw [hb] at h4; exact h4)
      show (if i = id then OutR ρ H nx w kept n o .normal a1 w1 else OutR ρ H nx w kept n o (.exit i) a1 w1)
      cases hb : Nat.beq i id with
      | true =>
        rw [hb] at h3
        rw [if_pos (Nat.eq_of_beq_eq_true hb)]
        cases h3; exact ⟨ρ1, g1, g2, trivial⟩
      | false =>
        rw [hb] at h3
        rw [if_neg (Nat.ne_of_beq_eq_false hb)]
        cases h3; exact ⟨ρ1, g1, g2, rfl⟩
    | _ => exact g3.elim
  | ret =>
    cases e with
    | ret => cases h2; exact ⟨ρ1, g1, g2, trivial⟩
    | _ => exact g3.elim
  | panic ch =>
    cases e with
    | panic ch' => cases h2; exact ⟨ρ1, g1, g2, g3⟩
    | _ => exact g3.elim

/-- a loop's rounds -/
def RoundsOk (P : Program) (kept : List Nat) (n : Nat) (f : RC) (m : Nat) (c : Code) : Prop :=
  ∀ T D H nx o, f T D H nx = some o → ∀ ρ a w, HR ρ H nx w.heap → ActR ρ kept n T D a → Code.rounds P c (OutR ρ H nx w kept n o) m a w

theorem rounds_mono {c : Code} {Q Q' : Exit → Act → World → Prop} (hq : ∀ e a w, Q e a w → Q' e a w) : ∀ m a w, Code.rounds P c Q m a w → Code.rounds P c Q' m a w := by
  intro m
  induction m with
  | zero => intro a w h; exact h
  | succ m ih =>
    intro a w h
    refine wp_mono (show c.wp P (Exit.then (Code.rounds P c Q m) Q) a w from h) fun e a1 w1 h1 => ?_
    cases e <;> first | exact ih _ _ h1 | exact hq _ _ _ h1

theorem loop_rounds {r : Run} {ac : ACode} {f : RC} {x : Code} {m : Nat} (hf : CodeOk P ins kept n f x) (hr : RoundsOk P kept n (r.code (.loop ac)) m x) : RoundsOk P kept n (cLoop r ac f) (m + 1) x := by
  intro T D H nx o h ρ a w hH ha
  obtain ⟨o1, h1, h2⟩ := bd_eq h
  refine wp_mono (hf T D H nx o1 h1 ρ a w hH ha) fun e a1 w1 hq => ?_
  exact seq_after (Q := OutR ρ H nx w kept n o) h2 (fun st hst ρ1 a1 w1 g1 g2 => rounds_mono (fun e a2 w2 hq => .trans g1 hq) _ _ _ (hr _ _ _ _ o hst ρ1 a1 w1 g1.hr g2)) hq

theorem loop_ok {f : RC} {x : Code} {m : Nat} (h : RoundsOk P kept n f m x) : CodeOk P ins kept n f (.loop x) := by
  intro T D H nx o hf ρ a w hH ha
  exact wp_loop_rounds m (h T D H nx o hf ρ a w hH ha)
end Go.Eng
/- The engine: regions whose order is given. -/
namespace Go.Eng
variable {P : Program} {ins kept : List Nat} {n : Nat} {A : AProg} {rn : Run}

theorem keepK_eq {T : Tr Value} {p : Option (List Bool)} {v : Value} {k : Tr Value → R0} : keepK T p v k = k (match p with | none => T | some p => insP p T (some v)) := by
  cases p with
  | none => rfl
  | some p => exact setP_eq p T (some v) k

theorem contO_nil {p : Option (List Bool)} {k : RL} {T : Tr Value} {L : List Value} {D : List Dfd} {v : Value} {H : Heap} {nx : Nat} :
    contO P p [] k T L D v H nx = k (match p with | none => T | some p => insP p T (some v)) (v :: L) D H nx := by
  unfold contO
  rw [keepK_eq]
  rfl

theorem runOps_cons {o : AO} {ag : List Again} {l : List (AO × List Again)} : runOps A rn ((o, ag) :: l) = opG A rn o ag (runOps A rn l) := rfl

/-- no load needs a second look where the order is given -/
theorem agains_all {ops : List Oper} {bef : List Nat} {done : Nat} {env : Env} {bh : Nat} : ∀ {l : List Nat}, (∀ j ∈ l, Nat.testBit bh j = true) → againsC P kept n ops bef done env bh l = some [] := by
  intro l
  induction l with
  | nil => intro _; rfl
  | cons j l ih =>
    intro h
    unfold againsC
    rw [ih fun i hi => h i (List.mem_cons_of_mem _ hi), h j List.mem_cons_self]
    rfl
theorem map_map {α β γ : Type} (f : α → β) (g : β → γ) (a : AOp α) : (a.map f).map g = a.map (fun x => g (f x)) := by
  cases a <;> simp only [AOp.map, List.map_map, Option.map_map] <;> rfl

/-- the operation as it was compiled, over the values of its operands -/
theorem trav_cst {env : Env} {T : Tr Value} {L : List Value} {a : AOp Operand} {b : AOp Od} (h : a.trav (cv kept n env) = some b) :
    b.map (cstv T L) = a.map (Av fun x => (valO T L ((cv kept n env x).getD (.loc 0))).getD undef) := by
  obtain ⟨h1, _⟩ := trav_sound (.loc 0) h
  rw [h1, map_map]
  rfl

theorem trav_VR {ρ : Rho} {env : Env} {T : Tr Value} {L : List Value} {a : AOp Operand} {b : AOp Od} {c : Act} (h : a.trav (cv kept n env) = some b) (he : EnvR ρ kept n env T L c) :
    a.all fun x => VR ρ ((valO T L ((cv kept n env x).getD (.loc 0))).getD undef) (c.eval x) := by
  obtain ⟨_, h2⟩ := trav_sound (.loc 0) h
  refine all_mono (fun x hx => ?_) h2
  obtain ⟨y, hy⟩ := hx
  rw [hy]
  exact cv_sound he hy

/-- an operation that calls nothing, run -/
theorem plain_run {ρ : Rho} {env : Env} {T : Tr Value} {L : List Value} {H : Heap} {nx : Nat} {w : World} {o : Oper} {a : AOp Operand} {b : AOp Od} {c : Act} {r : Ex × St} {k : KA} (hc : compileOp P ins o = some a) (hp : a.plain = true) (h : a.trav (cv kept n env) = some b) (he : EnvR ρ kept n env T L c)
    (hH : HR ρ H nx w.heap) (hr : actT b P T L H nx k = some r) : Good P w ρ H nx r k (execOp c.eval o) := by
  have h1 := actT_to (T' := T) (L' := L) hr
  rw [trav_cst h] at h1
  exact act_sound hc hp (trav_VR h he) hH h1
/-- the guard, as both see it -/
theorem guard_same {ρ : Rho} {env : Env} {T : Tr Value} {L : List Value} {c : Act} {ops : List Oper} {o : Oper} {g : Option (Nat × Bool)} (h : guardC ops env o.guard = some g) (he : EnvR ρ kept n env T L c) :
    Region.wanted o (yielded ops.toArray c.tmps) = wanted L g := by
  unfold Region.wanted
  cases hg : o.guard with
  | none => rw [hg] at h; cases h; rfl
  | some p =>
    obtain ⟨j, want⟩ := p
    rw [hg] at h
    simp only [guardC] at h
    cases hj : ops[j]? with
    | none => rw [hj] at h; cases h
    | some q =>
      rw [hj] at h
      simp only at h
      cases hd : q.dst with
      | none => rw [hd] at h; cases h
      | some t =>
        rw [hd] at h
        simp only at h
        cases hf : find env t with
        | none => rw [hf] at h; cases h
        | some x =>
          rw [hf] at h
          simp only [Option.map_eq_some_iff] at h
          obtain ⟨d, hx, rfl⟩ := h
          have hx' : x = .loc d := by cases x <;> simp [locOf] at hx; rw [hx]
          subst hx'
          have hv := he.env t _ hf
          show (yielded ops.toArray c.tmps j == some want) = wantO want (nthO L d)
          rw [nthO_eq]
          have hval : valO T L (.loc d) = L[d]? := rfl
          rw [hval] at hv
          have hy : yielded ops.toArray c.tmps j = match c.tmps.getD t undef with | .bool b => some b | _ => none := by
            unfold yielded
            simp only [List.getElem?_toArray, hj, Option.bind_some, hd, Array.getD_eq_getD_getElem?]
            cases c.tmps[t]? with
            | none => rfl
            | some v => cases v <;> rfl
          rw [hy]
          generalize c.tmps.getD t undef = u at hv
          cases hL : L[d]? with
          | none =>
            rw [hL] at hv
            have : u = undef := by
              cases hv with
              | sc h => rfl
              | tuple h => cases h; rfl
            subst this
            rfl
          | some v =>
            rw [hL] at hv
            have hv' : VR ρ v u := hv
            show _ = wantB want v
            cases hv' with
            | sc h => cases u <;> first | rfl | (rename_i b; cases b <;> cases want <;> rfl) | (simp [scalar] at h)
            | any h => cases u <;> first | rfl | (simp [anyOne] at h)
            | _ => rfl
end Go.Eng
/- The engine: one operation of a region, run by the machine. -/
namespace Go.Eng
variable {P : Program} {ins kept : List Nat} {n : Nat} {A : AProg} {rn : Run}

/-- what follows an operation that gave a value -/
def NextOk (A : AProg) (p : Option (List Bool)) (ag : List Again) (k : RL) (r : Ex × St) (ρ : Rho) (T : Tr Value) (L : List Value) (H : Heap) (nx : Nat) (w : World) (o : Oper) (c : Act) (next : Act → World → Prop) : Prop :=
  ∀ (v : Value) (H' : Heap) (nx' : Nat) (D' : List Dfd) (ρ' : Rho) (u : Value) (w' : World) (c' : Act), contO A.P p ag k T L D' v H' nx' = some r → VR ρ' v u → Went ρ H nx w ρ' H' nx' w' → DfRs ρ' D' c'.defers → c'.tmps = c.tmps → next (c'.put o.dst u) w'

def PanicOk (r : Ex × St) (ρ : Rho) (T : Tr Value) (D : List Dfd) (H : Heap) (nx : Nat) (w : World) (c : Act) (Q : Exit → Act → World → Prop) : Prop :=
  ∀ ch ch' ρ' H' nx' w', r = (.panic ch, ⟨T, D, H', nx'⟩) → ChRs ρ' ch ch' → Went ρ H nx w ρ' H' nx' w' → Q (.panic ch') c w'

theorem opT_plain {b : AOp Od} (h : b.plain = true) : opT b = oAct := by
  cases b <;> first | rfl | (simp [AOp.plain] at h) | skip

theorem plain_map {α β : Type} (f : α → β) (a : AOp α) : (a.map f).plain = a.plain := by cases a <;> rfl

theorem plain_op {ρ : Rho} {env : Env} {T : Tr Value} {L : List Value} {D : List Dfd} {H : Heap} {nx : Nat} {w : World} {o : Oper} {a : AOp Operand} {b : AOp Od} {c : Act} {r : Ex × St} {p : Option (List Bool)} {ag : List Again} {k : RL}
    {next : Act → World → Prop} {Q : Exit → Act → World → Prop} (hA : A.P = P) (hc : compileOp P ins o = some a) (hp : a.plain = true) (h : a.trav (cv kept n env) = some b) (he : EnvR ρ kept n env T L c) (hD : DfRs ρ D c.defers)
    (hH : HR ρ H nx w.heap) (hr : opT b A rn p ag k b T L D H nx = some r) (hn : NextOk A p ag k r ρ T L H nx w o c next) : o.upon P c next Q ((execOp c.eval o).run P w) := by
  have hb : b.plain = true := by
    rw [(trav_sound (.loc 0) h).1, plain_map]; exact hp
  rw [opT_plain hb] at hr
  have hr' : actT b P T L H nx (contO A.P p ag k T L D) = some r := by rw [← hA]; exact hr
  obtain ⟨v, H', nx', u, w', ρ', h1, h2, h3, h4, h5, h6, h7⟩ := plain_run hc hp h he hH hr'
  have hnext := hn v H' nx' D ρ' u w' c h1 h3 ⟨h4, h5, h6, h7⟩ (hD.mono h5.ext) rfl
  rcases h2 with h2 | ⟨h2, rfl⟩
  · rw [h2]; exact hnext
  · rw [h2]; exact hnext
theorem travL_vals {ρ : Rho} {env : Env} {T : Tr Value} {L : List Value} {c : Act} (he : EnvR ρ kept n env T L c) : ∀ {xs : List Operand} {ys : List Od} {vs : List Value}, travL (cv kept n env) xs = some ys → valsO T L ys = some vs → VRs ρ vs (xs.map c.eval) := by
  intro xs
  induction xs with
  | nil => intro ys vs h1 h2; cases h1; cases h2; exact .nil
  | cons x xs ih =>
    intro ys vs h1 h2
    unfold travL at h1
    cases hx : cv kept n env x with
    | none => simp [hx] at h1
    | some y =>
      cases hxs : travL (cv kept n env) xs with
      | none => simp [hx, hxs] at h1
      | some ys' =>
        simp [hx, hxs] at h1
        subst h1
        unfold valsO at h2
        cases hv : valO T L y with
        | none => simp [hv] at h2
        | some v =>
          cases hvs : valsO T L ys' with
          | none => simp [hv, hvs] at h2
          | some vs' =>
            simp [hv, hvs] at h2
            subst h2
            have := cv_sound he hx
            rw [hv] at this
            exact .cons this (ih hxs hvs)

/-- a call, as the machine sees it -/
theorem enter_op {ρ : Rho} {T : Tr Value} {L : List Value} {D : List Dfd} {H : Heap} {nx : Nat} {w : World} {o : Oper} {c : Act} {r : Ex × St} {p : Option (List Bool)} {ag : List Again} {k : RL} {g : FuncId} {vs us : List Value}
    {next : Act → World → Prop} {Q : Exit → Act → World → Prop} (hcall : CallOk P rn) (hD : DfRs ρ D c.defers) (hH : HR ρ H nx w.heap) (hvs : VRs ρ vs us) (hr : bd (rn.call g vs H nx) (onRet A.P p ag k T L D) = some r)
    (he : (execOp c.eval o).run P w = (callFunc g ⟨us⟩).run P w)
    (hn : NextOk A p ag k r ρ T L H nx w o c next) (hq : PanicOk r ρ T D H nx w c Q) : o.upon P c next Q ((execOp c.eval o).run P w) := by
  obtain ⟨ret, h1, h2⟩ := bd_eq hr
  obtain ⟨hent, hcl⟩ := hcall g vs H nx ret h1
  rw [he, hent.run, Oper.upon_enter]
  refine (hcl ρ us w hvs hH).mono fun e w' hret => ?_
  cases ret with
  | ok v H' nx' =>
    obtain ⟨u, ρ', rfl, hv, hw⟩ := hret
    exact hn v H' nx' D ρ' u w' c h2 hv hw (hD.mono hw.stp.ext) rfl
  | pan ch H' nx' =>
    obtain ⟨ch', ρ', rfl, hch, hw⟩ := hret
    have h3 : some (Ex.panic ch, (⟨T, D, H', nx'⟩ : St)) = some r := h2
    cases h3
    exact hq ch ch' ρ' H' nx' w' rfl hch hw

theorem call_op {ρ : Rho} {env : Env} {T : Tr Value} {L : List Value} {D : List Dfd} {H : Heap} {nx : Nat} {w : World} {o : Oper} {d : Call} {f : Operand} {f' : Od} {args' : List Od} {c : Act} {r : Ex × St} {p : Option (List Bool)} {ag : List Again} {k : RL}
    {next : Act → World → Prop} {Q : Exit → Act → World → Prop} (hcall : CallOk P rn) (ho : o.op = .call d) (hcal : d.callee = .value f) (hf : cv kept n env f = some f') (hargs : travL (cv kept n env) d.args.toList = some args') (he : EnvR ρ kept n env T L c) (hD : DfRs ρ D c.defers)
    (hH : HR ρ H nx w.heap) (hr : opT (.call f' args') A rn p ag k (.call f' args') T L D H nx = some r) (hn : NextOk A p ag k r ρ T L H nx w o c next) (hq : PanicOk r ρ T D H nx w c Q) : o.upon P c next Q ((execOp c.eval o).run P w) := by
  have hr' : evK T L f' (fun f => evsK T L args' fun vs => targetK vs (fun g vs => bd (rn.call g vs H nx) (onRet A.P p ag k T L D)) f) = some r := hr
  rw [evK_eq] at hr'
  obtain ⟨fv, hfv, h1⟩ := bd_eq hr'
  rw [evsK_eq] at h1
  obtain ⟨vs, hvs, h2⟩ := bd_eq h1
  have hvf := cv_sound he hf
  rw [hfv] at hvf
  have hva := travL_vals he hargs hvs
  unfold targetK at h2
  split at h2
  · rename_i g first captured
    have hvf' : VR ρ (.func (.func g) first captured) (c.eval f) := hvf
    generalize hu : c.eval f = u at hvf'
    cases hvf' with
    | sc h => simp [scalar] at h
    | @func _ a a' q q' h3 h4 =>
      refine enter_op hcall hD hH (vs := a ++ vs ++ q) (us := a' ++ d.args.toList.map c.eval ++ q') ((h3.append hva).append h4) h2 ?_ hn hq
      simp only [execOp, ho, resolve, hcal, hu, Deferred.ofValue, Sem.run_bind, Sem.run_pure, Result.andThen_ok, invoke]
      congr 2
      apply Array.ext'
      simp
  · cases h2
theorem pan_op {ρ : Rho} {env : Env} {T : Tr Value} {L : List Value} {D : List Dfd} {H : Heap} {nx : Nat} {w : World} {o : Oper} {x : Operand} {x' : Od} {c : Act} {r : Ex × St} {p : Option (List Bool)} {ag : List Again} {k : RL}
    {next : Act → World → Prop} {Q : Exit → Act → World → Prop} (ho : o.op = .panic x) (hx : cv kept n env x = some x') (he : EnvR ρ kept n env T L c)
    (hH : HR ρ H nx w.heap) (hr : opT (.pan x') A rn p ag k (.pan x') T L D H nx = some r) (hq : PanicOk r ρ T D H nx w c Q) : o.upon P c next Q ((execOp c.eval o).run P w) := by
  have hr' : evK T L x' (panV T D H nx) = some r := hr
  rw [evK_eq] at hr'
  obtain ⟨v, hv, h1⟩ := bd_eq hr'
  have hvx := cv_sound he hx
  rw [hv] at hvx
  unfold panV at h1
  split at h1
  · rename_i t v
    have hvx' : VR ρ (.iface t v) (c.eval x) := hvx
    generalize hu : c.eval x = u at hvx'
    cases hvx' with
    | sc h => simp [scalar] at h
    | @iface _ _ u' hv' =>
      cases h1
      have hrun : (execOp c.eval o).run P w = .halt (.panic (.iface t u')) w := by
        simp only [execOp, ho, hu]
        rfl
      rw [hrun, Oper.upon_panic]
      exact hq _ _ ρ H nx w rfl (.cons (.iface hv') rfl rfl .nil) (.refl hH)
  · cases h1

theorem dfr_op {ρ : Rho} {env : Env} {T : Tr Value} {L : List Value} {D : List Dfd} {H : Heap} {nx : Nat} {w : World} {o : Oper} {d : Call} {f : Operand} {f' : Od} {args' : List Od} {c : Act} {r : Ex × St} {p : Option (List Bool)} {ag : List Again} {k : RL}
    {next : Act → World → Prop} {Q : Exit → Act → World → Prop} (ho : o.op = .defer d) (hcal : d.callee = .value f) (hf : cv kept n env f = some f') (hargs : travL (cv kept n env) d.args.toList = some args') (he : EnvR ρ kept n env T L c) (hD : DfRs ρ D c.defers)
    (hH : HR ρ H nx w.heap) (hr : opT (.dfr f' args') A rn p ag k (.dfr f' args') T L D H nx = some r) (hn : NextOk A p ag k r ρ T L H nx w o c next) : o.upon P c next Q ((execOp c.eval o).run P w) := by
  have hr' : evK T L f' (fun f => evsK T L args' fun vs => onFn f (contO A.P p ag k T L ((f, vs) :: D) undef H nx)) = some r := hr
  rw [evK_eq] at hr'
  obtain ⟨fv, hfv, h1⟩ := bd_eq hr'
  rw [evsK_eq] at h1
  obtain ⟨vs, hvs, h2⟩ := bd_eq h1
  have hvf := cv_sound he hf
  rw [hfv] at hvf
  have hva := travL_vals he hargs hvs
  unfold onFn at h2
  split at h2
  · rename_i g first captured
    have hvf' : VR ρ (.func (.func g) first captured) (c.eval f) := hvf
    generalize hu : c.eval f = u at hvf'
    cases hvf' with
    | sc h => simp [scalar] at h
    | @func _ a a' q q' h3 h4 =>
      have hrun : (execOp c.eval o).run P w = .ok (.defer { target := .fn (.func g) ⟨q'⟩, args := ⟨a' ++ d.args.toList.map c.eval⟩ }) w := by
        simp only [execOp, ho, resolve, hcal, hu, Deferred.ofValue, Sem.run_bind, Sem.run_pure, Result.andThen_ok]
        congr 3
        apply Array.ext'
        simp
      rw [hrun, Oper.upon_defer]
      exact hn undef H nx _ ρ undef w { c with defers := _ :: c.defers } h2 .undef (.refl hH) (.cons ⟨g, a, a', q, q', _, rfl, rfl, h3, h4, hva⟩ hD) rfl
  · cases h2
end Go.Eng
/- The engine: a method that is called. -/
namespace Go.Eng
variable {P : Program} {ins kept : List Nat} {n : Nat} {A : AProg} {rn : Run} {ρ : Rho} {H : Heap} {nx : Nat} {w : World} {r : Ex × St}

theorem aggSize_eq (t : TypeId) : aggSize P t = aggC P t := rfl

theorem find_toList {α : Type} (p : α → Bool) (a : Array α) : a.find? p = a.toList.find? p := by simp

theorem method_sound {fuel : Nat} {t : TypeId} {v u : Value} {name : String} {m : FuncId × Option (Option Nat)} {k : Value → R0} (hH : HR ρ H nx w.heap) (hv : VR ρ v u) (hm : methodOf P t name = some m) (hr : recvK H v m.2 k = some r) :
    ∃ x y, k x = some r ∧ (method (fuel + 1) t u name).run P w = .ok (m.1, y) w ∧ VR ρ x y := by
  unfold methodOf at hm
  split at hm
  · rename_i i hi
    split at hm
    · rename_i q hq
      have hq' : i.methods.find? (·.name == name) = some q := by rw [find_toList]; exact hq
      cases hp : q.path.isEmpty with
      | false => rw [hp] at hm; cases hm
      | true =>
        rw [hp] at hm
        simp only [cond_true] at hm
        have hpath : q.path.toList = [] := by
          have : q.path = #[] := by simpa using hp
          rw [this]
        have hti : (typeInfo t).run P w = .ok i w := run_info hi
        split at hm
        · rename_i f e hf hu
          cases hm
          refine ⟨v, u, hr, ?_, hv⟩
          simp only [method, Sem.run_bind, hti, Result.andThen_ok, hq', hpath, follow, Sem.run_pure, hf, receiverAt, run_underlying hu, Place.get]
        · rename_i f e hf hu
          cases hg : aggSize P e with
          | none => simp [hg] at hm
          | some g =>
            simp [hg] at hm
            subst hm
            have hr' : (onPtr v fun b o => cellsR H b fun cs => bd (partOf cs o g) k) = some r := hr
            obtain ⟨b, o, rfl, h1⟩ := onPtr_some hr'
            obtain ⟨cs, xb, hb, hxb, h2⟩ := cellsR_some h1
            obtain ⟨x, hx, h3⟩ := bd_eq h2
            obtain ⟨s, hs, rfl⟩ := hv.ptr_inv
            obtain ⟨s', hs', hbr⟩ := hH.blk b _ hb
            have hbr := hxb _ _ _ hbr
            rw [hs] at hs'; cases hs'
            obtain ⟨y, hy, hxy⟩ := load_sound (w := w) (aggSize_eq e ▸ hg) hbr hx
            refine ⟨x, y, h3, ?_, hxy⟩
            simp only [method, Sem.run_bind, hti, Result.andThen_ok, hq', hpath, follow, Sem.run_pure, hf, receiverAt, run_underlying hu, Place.get]
            have hck : ∀ nm : String, (Builtin.ssaWrapNilChk_ #[t] t #[.pointer (some ⟨s.blk, s.sh + o, none⟩), strVal "", strVal nm]).run P w = .ok (.pointer (some ⟨s.blk, s.sh + o, none⟩)) w := fun _ => rfl
            have has : (asAddr (.pointer (some ⟨s.blk, s.sh + o, none⟩))).run P w = .ok ⟨s.blk, s.sh + o, none⟩ w := rfl
            simp only [hp, if_true, Sem.run_bind, hck, has, Result.andThen_ok, hy, Sem.run_pure]
        · rename_i f d hn hf hu
          cases hm
          refine ⟨v, u, hr, ?_, hv⟩
          simp only [method, Sem.run_bind, hti, Result.andThen_ok, hq', hpath, follow, Sem.run_pure, hf, receiverAt, run_underlying hu, Place.get]
        · cases hm
    · cases hm
  · cases hm
theorem inv_op {env : Env} {T : Tr Value} {L : List Value} {D : List Dfd} {o : Oper} {d : Call} {x : Operand} {name : String} {x' : Od} {args' : List Od} {c : Act} {p : Option (List Bool)} {ag : List Again} {k : RL}
    {next : Act → World → Prop} {Q : Exit → Act → World → Prop} (hA : A.P = P) (hcall : CallOk P rn) (ho : o.op = .call d) (hcal : d.callee = .invoke x name) (hx : cv kept n env x = some x') (hargs : travL (cv kept n env) d.args.toList = some args') (he : EnvR ρ kept n env T L c) (hD : DfRs ρ D c.defers)
    (hH : HR ρ H nx w.heap) (hr : opT (.inv x' name args') A rn p ag k (.inv x' name args') T L D H nx = some r) (hn : NextOk A p ag k r ρ T L H nx w o c next) (hq : PanicOk r ρ T D H nx w c Q) : o.upon P c next Q ((execOp c.eval o).run P w) := by
  have hr' : evK T L x' (fun x => evsK T L args' fun vs => invV A.P name H (fun g v => bd (rn.call g (v :: vs) H nx) (onRet A.P p ag k T L D)) x) = some r := hr
  rw [evK_eq] at hr'
  obtain ⟨xv, hxv, h1⟩ := bd_eq hr'
  rw [evsK_eq] at h1
  obtain ⟨vs, hvs, h2⟩ := bd_eq h1
  have hvx := cv_sound he hx
  rw [hxv] at hvx
  have hva := travL_vals he hargs hvs
  unfold invV at h2
  split at h2
  · rename_i t v
    obtain ⟨m, hm, h3⟩ := bd_eq h2
    rw [hA] at hm
    have hvx' : VR ρ (.iface t v) (c.eval x) := hvx
    generalize hu : c.eval x = u at hvx'
    cases hvx' with
    | sc h => simp [scalar] at h
    | @iface _ _ u' hv' =>
      have hd : 0 < Made.depth := by decide
      have hfuel : ∃ q, P.types.size + Made.depth = q + 1 := ⟨P.types.size + Made.depth - 1, by omega⟩
      obtain ⟨q, hq'⟩ := hfuel
      obtain ⟨y, z, h4, h5, h6⟩ := method_sound (w := w) (fuel := q) hH hv' hm h3
      refine enter_op hcall hD hH (vs := y :: vs) (us := z :: d.args.toList.map c.eval) (.cons h6 hva) h4 ?_ hn hq
      have hp : (program).run P w = .ok P w := rfl
      simp only [execOp, ho, resolve, hcal, hu, Sem.run_bind, Sem.run_pure, Result.andThen_ok, invoke]
      have hget : (#[Value.iface t u'] ++ d.args.map c.eval)[0]? = some (.iface t u') := by rw [Array.getElem?_append_left (by simp)]; rfl
      simp only [hget, callMethod, Sem.run_bind, hp, Result.andThen_ok, hq', h5]
      congr 2
      apply Array.ext'
      simp
      rw [List.take_of_length_le (by simp)]
  · cases h2
end Go.Eng
/- The engine: every operation of a region, run by the machine. -/
namespace Go.Eng
variable {P : Program} {ins kept : List Nat} {n : Nat} {A : AProg} {rn : Run} {ρ : Rho} {H : Heap} {nx : Nat} {w : World} {r : Ex × St}

/-- what an operation was compiled from, where it is no plain one -/
def From (o : Oper) : AOp Operand → Prop
  | .call f args => ∃ d, o.op = .call d ∧ d.callee = .value f ∧ args = d.args.toList
  | .inv x name args => ∃ d, o.op = .call d ∧ d.callee = .invoke x name ∧ args = d.args.toList
  | .dfr f args => ∃ d, o.op = .defer d ∧ d.callee = .value f ∧ args = d.args.toList
  | .pan x => o.op = .panic x
  | _ => True

theorem From.plain {o : Oper} {a : AOp Operand} (h : a.plain = true) : From o a := by
  cases a <;> first | trivial | (simp [AOp.plain] at h)

theorem compileBuiltin_from {b : Builtin} {ts : Array TypeId} {args : Array Operand} {o : Oper} {a : AOp Operand} (h : compileBuiltin P b ts args = some a) : From o a := by
  unfold compileBuiltin at h
  repeat' split at h
  all_goals first
    | (cases h; done)
    | (cases h; trivial)
    | (revert h; generalize Nat.beq _ _ = q; intro h; cases q <;> first | (cases h; done) | (cases h; trivial))

theorem bif_some {α : Type} {c : Bool} {x : Option α} {a : α} (h : (bif c then x else none) = some a) : x = some a := by
  cases c
  · cases h
  · exact h

theorem compile_from {o : Oper} {a : AOp Operand} (h : compileOp P ins o = some a) : From o a := by
  cases ho : o.op with
  | call d =>
    simp only [compileOp, ho] at h
    cases hc : d.callee with
    | builtin b => simp only [hc] at h; exact compileBuiltin_from h
    | invoke x name => simp only [hc] at h; cases h; exact ⟨d, ho, hc, rfl⟩
    | value f =>
      cases f with
      | func g =>
        simp only [hc] at h
        cases hg : isIn ins g with
        | true =>
          rw [hg] at h
          simp only [cond_true] at h
          repeat' split at h
          all_goals first | (cases h; done) | (cases h; trivial)
        | false => rw [hg] at h; cases h; exact ⟨d, ho, hc, rfl⟩
      | _ => simp only [hc] at h; cases h; exact ⟨d, ho, hc, rfl⟩
  | defer d =>
    simp only [compileOp, ho] at h
    split at h
    · rename_i f hc; cases h; exact ⟨d, ho, hc, rfl⟩
    · cases h
  | panic x => simp only [compileOp, ho] at h; cases h; exact ho
  | binOp op t x y q =>
    simp only [compileOp, ho, compileBin] at h
    repeat' split at h
    all_goals first
      | (cases h; done)
      | (cases h; trivial)
      | (revert h; generalize (isConstOp x || isConstOp y) = q; intro h; cases q <;> first | (cases h; done) | (cases h; trivial))
  | makeFunc fn xs ys =>
    cases fn with
    | func f => simp only [compileOp, ho] at h; cases h; trivial
    | _ => simp only [compileOp, ho] at h; cases h
  | _ =>
    unfold compileOp at h
    rw [ho] at h
    simp only at h
    repeat' split at h
    all_goals first
      | (cases h; done)
      | (cases h; trivial)
      | (simp only [Option.map_eq_some_iff] at h; obtain ⟨_, _, rfl⟩ := h; trivial)
      | (have h := bif_some h; first | (cases h; trivial) | (simp only [Option.map_eq_some_iff] at h; obtain ⟨_, _, rfl⟩ := h; trivial))

/-- the operation that stands for a whole function: its contract -/
theorem onI64_some {v : Value} {k : Nat → R0} {r : Ex × St} (h : onI64 v k = some r) : ∃ n, v = .int .i64 (.ofNat n) ∧ k n = some r := by
  unfold onI64 at h
  split at h
  · exact ⟨_, rfl, h⟩
  · cases h

def InsOk (P : Program) (ins : List Nat) : Prop := ∀ o z bytes s i v, compileOp P ins o = some (.ins z bytes s i v) → ∀ (ρ : Rho) (H : Heap) (nx : Nat) (w : World) (sv iv vv : Value) (c : Act), VR ρ sv (c.eval s) → VR ρ iv (c.eval i) → VR ρ vv (c.eval v) → HR ρ H nx w.heap →
  ∀ (k : KA) (r : Ex × St), (onI64 iv fun i => onSl sv fun b o z1 len cp => onSl vv (insV z bytes H nx k i b o z1 len cp)) = some r →
    ∃ g us, (execOp c.eval o).run P w = .ok (.enter g us) w ∧ Calls P g us w fun e w' => ∃ x H' nx' u ρ', k x H' nx' = some r ∧ e = .returned u ∧ VR ρ' x u ∧ Went ρ H nx w ρ' H' nx' w'

theorem op_run {env : Env} {T : Tr Value} {L : List Value} {D : List Dfd} {o : Oper} {a : AOp Operand} {b : AOp Od} {c : Act} {p : Option (List Bool)} {ag : List Again} {k : RL}
    {next : Act → World → Prop} {Q : Exit → Act → World → Prop} (hA : A.P = P) (hcall : CallOk P rn) (hins : InsOk P ins) (hc : compileOp P ins o = some a) (h : a.trav (cv kept n env) = some b) (he : EnvR ρ kept n env T L c) (hD : DfRs ρ D c.defers)
    (hH : HR ρ H nx w.heap) (hr : opT b A rn p ag k b T L D H nx = some r) (hn : NextOk A p ag k r ρ T L H nx w o c next) (hq : PanicOk r ρ T D H nx w c Q) : o.upon P c next Q ((execOp c.eval o).run P w) := by
  by_cases hp : a.plain = true
  · exact plain_op hA hc hp h he hD hH hr hn
  · have hfrom := compile_from hc
    cases a with
    | call f args =>
      obtain ⟨d, g1, g2, g3⟩ := hfrom
      simp only [AOp.trav] at h
      split at h
      · rename_i f' args' hf hargs
        cases h
        subst g3
        exact call_op hcall g1 g2 hf hargs he hD hH hr hn hq
      · cases h
    | inv x name args =>
      obtain ⟨d, g1, g2, g3⟩ := hfrom
      simp only [AOp.trav] at h
      split at h
      · rename_i x' args' hx hargs
        cases h
        subst g3
        exact inv_op hA hcall g1 g2 hx hargs he hD hH hr hn hq
      · cases h
    | dfr f args =>
      obtain ⟨d, g1, g2, g3⟩ := hfrom
      simp only [AOp.trav] at h
      split at h
      · rename_i f' args' hf hargs
        cases h
        subst g3
        exact dfr_op g1 g2 hf hargs he hD hH hr hn
      · cases h
    | pan x =>
      simp only [AOp.trav] at h
      split at h
      · rename_i x' hx
        cases h
        exact pan_op hfrom hx he hH hr hq
      · cases h
    | rcv =>
      simp only [AOp.trav] at h
      cases h
      cases hr
    | ins z bytes s i v =>
      simp only [AOp.trav] at h
      split at h
      · rename_i s' i' v' hs hi hv
        cases h
        have hr' : evK T L s' (fun s => evK T L i' fun i => onI64 i fun i => evK T L v' fun v => onSl s fun b o z1 len cp => onSl v (insV z bytes H nx (contO A.P p ag k T L D) i b o z1 len cp)) = some r := hr
        rw [evK_eq] at hr'
        obtain ⟨sv, hsv, h1⟩ := bd_eq hr'
        rw [evK_eq] at h1
        obtain ⟨iv, hiv, h2⟩ := bd_eq h1
        obtain ⟨m, rfl, h3⟩ := onI64_some h2
        rw [evK_eq] at h3
        obtain ⟨vv, hvv, h4⟩ := bd_eq h3
        have r1 := cv_sound he hs
        have r2 := cv_sound he hi
        have r3 := cv_sound he hv
        rw [hsv] at r1
        rw [hiv] at r2
        rw [hvv] at r3
        obtain ⟨g, us, q1, q2⟩ := hins o z bytes s i v hc ρ H nx w sv _ vv c r1 r2 r3 hH (contO A.P p ag k T L D) r h4
        rw [q1, Oper.upon_enter]
        refine q2.mono fun e w' hret => ?_
        obtain ⟨x, H', nx', u, ρ', h5, rfl, h6, h7⟩ := hret
        exact hn x H' nx' D ρ' u w' c h5 h6 h7 (hD.mono h7.stp.ext) rfl
      · cases h
    | _ => exact absurd rfl hp
end Go.Eng
/- The engine: an operation hands what it comes to on to whatever follows. -/
namespace Go.Eng
variable {P : Program} {T : Tr Value} {L : List Value} {H : Heap} {nx : Nat}

def Det {X : Type} (F : (X → R0) → R0) : Prop := ∀ k r, F k = some r → ∃ x, k x = some r ∧ ∀ k', F k' = k' x
def DetP {X : Type} (p : X → Prop) (F : (X → R0) → R0) : Prop := ∀ k r, F k = some r → ∃ x, k x = some r ∧ (∀ k', F k' = k' x) ∧ p x
theorem DetP.det {X : Type} {p : X → Prop} {F : (X → R0) → R0} (h : DetP p F) : Det F := fun k r hr => let ⟨x, h1, h2, _⟩ := h k r hr; ⟨x, h1, h2⟩

section comb
variable {X α : Type} {p : X → Prop}
theorem DetP.ret (x : X) (hp : p x) : DetP p fun k => k x := fun _ _ h => ⟨x, h, fun _ => rfl, hp⟩
theorem DetP.no : DetP p fun _ => none := fun _ _ h => by cases h
theorem DetP.bd {o : Option α} {F : α → (X → R0) → R0} (h : ∀ a, DetP p (F a)) : DetP p fun k => bd o fun a => F a k := by
  cases o with
  | none => exact .no
  | some a => exact h a
theorem DetP.ev {x : Od} {F : Value → (X → R0) → R0} (h : ∀ a, DetP p (F a)) : DetP p fun k => evK T L x fun a => F a k := by
  intro k r hr
  simp only [evK_eq] at hr ⊢
  exact DetP.bd h k r hr
theorem DetP.evs {xs : List Od} {F : List Value → (X → R0) → R0} (h : ∀ a, DetP p (F a)) : DetP p fun k => evsK T L xs fun a => F a k := by
  intro k r hr
  simp only [evsK_eq] at hr ⊢
  exact DetP.bd h k r hr
theorem DetP.parts {xs : List (Nat × Nat × Od)} {F : List (Nat × Nat × Value) → (X → R0) → R0} (h : ∀ a, DetP p (F a)) : DetP p fun k => partsK T L xs fun a => F a k := by
  intro k r hr
  simp only [partsK_eq] at hr ⊢
  exact DetP.bd h k r hr
theorem DetP.cond {c : Bool} {F G : (X → R0) → R0} (h : DetP p F) (h' : DetP p G) : DetP p fun k => cond c (F k) (G k) := by
  cases c
  · exact h'
  · exact h
theorem DetP.nat {v : Value} {F : Nat → (X → R0) → R0} (h : ∀ a, DetP p (F a)) : DetP p fun k => onNat v fun a => F a k := by
  unfold onNat
  split
  · exact h _
  · exact .no
theorem DetP.i64 {v : Value} {F : Nat → (X → R0) → R0} (h : ∀ a, DetP p (F a)) : DetP p fun k => onI64 v fun a => F a k := by
  unfold onI64
  split
  · exact h _
  · exact .no
theorem DetP.agg {v : Value} {F : List Value → (X → R0) → R0} (h : ∀ a, DetP p (F a)) : DetP p fun k => onAgg v fun a => F a k := by
  unfold onAgg
  split
  · exact h _
  · exact .no
theorem DetP.ptr {v : Value} {F : Nat → Nat → (X → R0) → R0} (h : ∀ a b, DetP p (F a b)) : DetP p fun k => onPtr v fun a b => F a b k := by
  unfold onPtr
  split
  · exact h _ _
  · exact .no
theorem DetP.sl {v : Value} {F : Nat → Nat → Nat → Nat → Nat → (X → R0) → R0} (h : ∀ a b c d e, DetP p (F a b c d e)) : DetP p fun k => onSl v fun a b c d e => F a b c d e k := by
  unfold onSl
  split
  · exact h _ _ _ _ _
  · exact .no
theorem DetP.bool {v : Value} {F G : (X → R0) → R0} (h : DetP p F) (h' : DetP p G) : DetP p fun k => onBool v (F k) (G k) := by
  unfold onBool
  split
  · exact .cond h h'
  · exact .no
theorem DetP.cells {b : Nat} {F : List Value → (X → R0) → R0} (h : ∀ a, DetP p (F a)) : DetP p fun k => cellsK H b fun a => F a k := by
  unfold cellsK onCells
  cases getP H (at_ b) with
  | none => exact .no
  | some x => cases x with
    | cells cs => exact h _
    | map es c => exact .no
    | ro cs => exact .no
theorem DetP.cellsR {b : Nat} {F : List Value → (X → R0) → R0} (h : ∀ a, DetP p (F a)) : DetP p fun k => cellsR H b fun a => F a k := by
  unfold Eng.cellsR onRead
  cases getP H (at_ b) with
  | none => exact .no
  | some x => cases x with
    | cells cs => exact h _
    | map es c => exact .no
    | ro cs => exact h _
theorem DetP.mapB {b : Option Blk} {F : List MapEntry → Nat → (X → R0) → R0} (h : ∀ a c, DetP p (F a c)) : DetP p fun k => onMapB b fun a c => F a c k := by
  unfold onMapB
  cases b with
  | none => exact .no
  | some x => cases x with
    | cells cs => exact .no
    | map es c => exact h _ _
    | ro cs => exact .no
theorem DetP.map {m : Value} {F : Nat → List MapEntry → Nat → (X → R0) → R0} (h : ∀ a b c, DetP p (F a b c)) : DetP p fun k => mapK H m fun a b c => F a b c k := by
  unfold mapK
  split
  · exact .mapB fun _ _ => h _ _ _
  · exact .no
theorem DetP.opt {x : Option Od} {d : Nat} {F : Nat → (X → R0) → R0} (h : ∀ a, DetP p (F a)) : DetP p fun k => optK T L x d fun a => F a k := by
  cases x with
  | none => exact h d
  | some x => exact .ev fun _ => .nat h
theorem DetP.ssl {x : Option Od} {F : Option Value → (X → R0) → R0} (h : ∀ a, DetP p (F a)) : DetP p fun k => sslK T L x fun a => F a k := by
  cases x with
  | none => exact h none
  | some x => exact .ev fun _ => h _
theorem DetP.set {pp : List Bool} {H : Heap} {b : Option Blk} {F : Heap → (X → R0) → R0} (h : ∀ a, DetP p (F a)) : DetP p fun k => setP pp H b fun a => F a k := by
  intro k r hr
  simp only [setP_eq] at hr ⊢
  exact h _ k r hr
theorem DetP.oi {o : Option Nat} {F : (X → R0) → R0} {G : Nat → (X → R0) → R0} (h : DetP p F) (h' : ∀ a, DetP p (G a)) : DetP p fun k => Option.rec (F k) (fun a => G a k) o := by
  cases o with
  | none => exact h
  | some a => exact h' a
end comb

theorem slcM_det {p : Value → Prop} (hp : ∀ v, p v) {mx : Option Od} {b o z l h c : Nat} : DetP p fun k => slcM T L mx k b o z l h c := by
  unfold slcM
  cases mx with
  | none => exact .ret _ (hp _)
  | some m => exact .ev fun _ => .nat fun _ => .cond (.ret _ (hp _)) .no

theorem lookT_detP {p : Value → Prop} (hp : ∀ v, p v) (a : AOp Od) : DetP p fun k => lookT a P T L H k := by
  cases a with
  | mov x => exact .ev fun _ => .ret _ (hp _)
  | pick c x y => exact .ev fun _ => .bool (.ev fun _ => .ret _ (hp _)) (.ev fun _ => .ret _ (hp _))
  | nilck x => exact .ev fun _ => by unfold nilckV; split <;> first | exact .ret _ (hp _) | exact .no
  | ext x i =>
    exact .ev fun _ => by
      unfold extV
      split
      · intro k r hr; simp only [nthK_eq] at hr ⊢; exact DetP.bd (F := fun v k => k v) (fun _ => .ret _ (hp _)) k r hr
      · exact .no
  | fld x off agg => exact .ev fun _ => .agg fun _ => .bd fun _ => .ret _ (hp _)
  | fad x off => exact .ev fun _ => .ptr fun _ _ => .ret _ (hp _)
  | ixs x i z => exact .ev fun _ => .ev fun _ => .nat fun _ => .sl fun _ _ _ _ _ => .cond (.ret _ (hp _)) .no
  | ixa x i n z => exact .ev fun _ => .ev fun _ => .nat fun _ => .ptr fun _ _ => .cond (.ret _ (hp _)) .no
  | ix x i n z agg => exact .ev fun _ => .ev fun _ => .nat fun _ => .agg fun _ => .cond (.bd fun _ => .ret _ (hp _)) .no
  | bin op t x y =>
    exact .ev fun u => .ev fun v => by
      unfold binV
      cases fast op u v with
      | none => exact .bd fun _ => .ret _ (hp _)
      | some x => exact .ret _ (hp _)
  | un op x => exact .ev fun _ => .bd fun _ => .ret _ (hp _)
  | cvt s d x => exact .ev fun _ => .bd fun _ => .ret _ (hp _)
  | mnx mn xs => exact .evs fun _ => .bd fun _ => .ret _ (hp _)
  | six t x i => exact .ev fun _ => .ev fun _ => .bd fun _ => .ret _ (hp _)
  | ssl t x lo hi => exact .ev fun _ => .ssl fun _ => .ssl fun _ => .bd fun _ => .ret _ (hp _)
  | isnil neg kd x y => exact .ev fun _ => .ev fun _ => .bd fun _ => .bd fun _ => .cond (.ret _ (hp _)) .no
  | bld zero parts => exact .parts fun _ => .bd fun _ => .ret _ (hp _)
  | clo fn first cap => exact .evs fun _ => .evs fun _ => .ret _ (hp _)
  | ifc t x => exact .ev fun _ => .ret _ (hp _)
  | tas x t zero ok =>
    exact .ev fun v => by
      unfold tasV
      split
      · exact .cond (.ret _ (hp _)) .no
      · exact .cond (.ret _ (hp _)) (.cond (.ret _ (hp _)) .no)
      · exact .no
  | lod x agg => exact .ev fun _ => .ptr fun _ _ => .cellsR fun _ => .bd fun _ => .ret _ (hp _)
  | len x => exact .ev fun v => by unfold lenV; split <;> first | exact .ret _ (hp _) | exact .no
  | mln x =>
    exact .ev fun v => by
      unfold mlnV
      split
      · exact .ret _ (hp _)
      · exact .mapB fun _ _ => .ret _ (hp _)
      · exact .no
  | sln x => exact .ev fun v => by unfold slnV; split <;> first | exact .ret _ (hp _) | exact .no
  | cap x =>
    exact .ev fun v => by
      unfold capV
      split
      · exact .ret _ (hp _)
      · exact .cond (.ret _ (hp _)) .no
      · exact .no
  | slc x lo hi mx z =>
    exact .ev fun v => by
      unfold slcV
      split
      · exact .opt fun _ => .opt fun _ => .cond (.ret _ (hp _)) .no
      · exact .opt fun _ => .opt fun _ => .cond (slcM_det hp) .no
      · exact .no
  | sla x lo hi n z => exact .ev fun _ => .ptr fun _ _ => .opt fun _ => .opt fun _ => .cond (.ret _ (hp _)) .no
  | lku x key kt zero ok =>
    exact .ev fun m => .ev fun key => by
      unfold lkuV
      split
      · exact .cond (.bd fun _ => .ret _ (hp _)) .no
      · exact .mapB fun _ _ => .bd fun i => .oi (.ret _ (hp _)) fun _ => .bd fun _ => .ret _ (hp _)
      · exact .no
  | _ => exact .no

theorem lookT_det (a : AOp Od) : Det fun k => lookT a P T L H k := (lookT_detP (p := fun _ => True) (fun _ => trivial) a).det

abbrev VHN := Value × Heap × Nat
def uk (k : VHN → R0) : KA := fun v H nx => k (v, H, nx)

def up (nx : Nat) (x : VHN) : Prop := nx ≤ x.2.2
theorem look_det (f : LK) (h : Det fun k => f P T L H k) : DetP (up nx) fun k => aLook f P T L H nx (uk k) := by
  intro k r hr
  obtain ⟨x, h1, h2⟩ := h _ r hr
  exact ⟨(x, H, nx), h1, fun k' => h2 _, Nat.le_refl _⟩

theorem fresh_det {v : Value} {cs : List Value} : DetP (up nx) fun k => fresh H nx v (uk k) cs := .set fun _ => .ret _ (Nat.le_succ _)
theorem put1_det {b : Nat} {v : Value} {cs : List Value} : DetP (up nx) fun k => put1 H nx b v (uk k) cs := .set fun _ => .ret _ (Nat.le_refl _)
theorem appNew_det {z bytes len n : Nat} {old new : List Value} : DetP (up nx) fun k => appNew z bytes H nx (uk k) len n old new := .cond fresh_det .no
theorem src_det {X : Type} {p : X → Prop} {z : Nat} {v : Value} {F : Nat → List Value → (X → R0) → R0} (h : ∀ a b, DetP p (F a b)) : DetP p fun k => srcK H z (fun a b => F a b k) v := by
  unfold srcK
  split
  · exact h _ _
  · exact .cond (.cond (h _ _) (.cellsR fun _ => .bd fun _ => h _ _)) .no
  · exact .no
theorem putNth_det {p : VHN → Prop} {v : Value} {F : List Value → (VHN → R0) → R0} (h : ∀ l, DetP p (F l)) : ∀ (l : List Value) (o : Nat) (G : List Value → List Value), DetP p fun k => putNth l o v fun l => F (G l) k := by
  intro l
  induction l with
  | nil => intro o G; exact .no
  | cons c l ih =>
    intro o G
    cases o with
    | zero => exact h _
    | succ o => exact ih o fun l => G (c :: l)
theorem appV_det {z bytes n : Nat} {s : Value} {new : List Value} : DetP (up nx) fun k => appV z bytes H nx (uk k) s n new := by
  unfold appV
  split
  · exact .cond (.ret _ (Nat.le_refl _)) (.cond appNew_det .no)
  · exact .cond (.cond (.ret _ (Nat.le_refl _)) (.cond (.cells fun _ => .bd fun _ => put1_det) (.cells fun _ => .bd fun _ => .cond appNew_det (.set fun _ => appNew_det)))) .no
  · exact .no

theorem actT_detP (a : AOp Od) : DetP (up nx) fun k => actT a P T L H nx (uk k) := by
  cases a with
  | box x => exact .ev fun _ => fresh_det
  | alc zero => exact fresh_det
  | mks z bytes zero l c => exact .ev fun _ => .nat fun _ => .ev fun _ => .nat fun _ => .cond fresh_det .no
  | bsl z len zero parts => exact .parts fun _ => .bd fun _ => .cond fresh_det .no
  | mkm x => exact .opt (d := 0) (F := fun _ k => setP (at_ nx) H (some (Blk.map [] 0)) fun H => k (Value.map (some nx), H, Nat.succ nx)) fun _ => .set fun _ => .ret _ (Nat.le_succ _)
  | sto x v n =>
    exact .ev fun _ => .ev fun v => .ptr fun b o => .cond (.cells fun old => by
      unfold stoL
      cases cellsOf v with
      | nil => exact .no
      | cons c r =>
        cases r with
        | nil => exact putNth_det (F := fun l k => put1 H nx b undef (uk k) l) (fun l => put1_det) old o id
        | cons c2 r => exact .bd fun _ => put1_det) .no
  | app z bytes zero s x zeros =>
    exact .ev fun s => .ev fun x => by
      unfold appSrc
      cases zeros with
      | true => exact .nat fun n => .cond appV_det .no
      | false => exact src_det (F := fun n cs k => appV z bytes H nx (uk k) s n cs) fun _ _ => appV_det
  | clr x zero =>
    exact .ev fun x => by
      unfold clrV
      split
      · exact .ret _ (Nat.le_refl _)
      · exact .cond (.ret _ (Nat.le_refl _)) (.cond (.cells fun _ => .bd fun _ => put1_det) .no)
      · exact .no
  | cpy z d s =>
    exact .ev fun d => .ev fun s => src_det fun n cs => by
      unfold cpyD
      split
      · exact .ret _ (Nat.le_refl _)
      · exact .sl fun _ _ _ _ _ => .cond (.cond (.ret _ (Nat.le_refl _)) (.bd fun _ => .cond (.cells fun _ => .bd fun _ => put1_det) .no)) .no
  | mup m key v kt => exact .ev fun _ => .ev fun _ => .ev fun _ => .map fun _ _ _ => .bd fun i => .oi (.set fun _ => .ret _ (Nat.le_refl _)) fun _ => .set fun _ => .ret _ (Nat.le_refl _)
  | men m key kt zero => exact .ev fun _ => .ev fun _ => .map fun _ _ _ => .bd fun i => .oi (.set fun _ => .ret _ (Nat.le_refl _)) fun _ => .bd fun _ => .ret _ (Nat.le_refl _)
  | est m s v => exact .ev fun _ => .ev fun _ => .nat fun _ => .ev fun _ => .map fun _ _ _ => .bd fun i => .set fun _ => .ret _ (Nat.le_refl _)
  | ins z bytes s i v =>
    refine .ev fun _ => .ev fun _ => .i64 fun i => .ev fun _ => .sl fun b o z1 len c => .sl fun b2 o2 z2 m c2 => ?_
    unfold insV
    exact .cond (.cells fun _ => .cells fun _ => .bd fun _ => .bd fun _ => .bd fun _ => .cond (.set fun _ => appNew_det) .no) .no
  | call f args => exact .no
  | inv x name args => exact .no
  | dfr f args => exact .no
  | pan x => exact .no
  | rcv => exact .no
  | mov x => exact look_det _ (lookT_det (.mov x))
  | pick c x y => exact look_det _ (lookT_det (.pick c x y))
  | nilck x => exact look_det _ (lookT_det (.nilck x))
  | ext x i => exact look_det _ (lookT_det (.ext x i))
  | fld x off agg => exact look_det _ (lookT_det (.fld x off agg))
  | fad x off => exact look_det _ (lookT_det (.fad x off))
  | ixs x i z => exact look_det _ (lookT_det (.ixs x i z))
  | ixa x i n z => exact look_det _ (lookT_det (.ixa x i n z))
  | ix x i n z agg => exact look_det _ (lookT_det (.ix x i n z agg))
  | bin op t x y => exact look_det _ (lookT_det (.bin op t x y))
  | un op x => exact look_det _ (lookT_det (.un op x))
  | cvt s d x => exact look_det _ (lookT_det (.cvt s d x))
  | mnx mn xs => exact look_det _ (lookT_det (.mnx mn xs))
  | six t x i => exact look_det _ (lookT_det (.six t x i))
  | ssl t x lo hi => exact look_det _ (lookT_det (.ssl t x lo hi))
  | isnil neg kd x y => exact look_det _ (lookT_det (.isnil neg kd x y))
  | bld zero parts => exact look_det _ (lookT_det (.bld zero parts))
  | clo fn first cap => exact look_det _ (lookT_det (.clo fn first cap))
  | ifc t x => exact look_det _ (lookT_det (.ifc t x))
  | tas x t zero ok => exact look_det _ (lookT_det (.tas x t zero ok))
  | lod x agg => exact look_det _ (lookT_det (.lod x agg))
  | len x => exact look_det _ (lookT_det (.len x))
  | mln x => exact look_det _ (lookT_det (.mln x))
  | sln x => exact look_det _ (lookT_det (.sln x))
  | cap x => exact look_det _ (lookT_det (.cap x))
  | slc x lo hi mx z => exact look_det _ (lookT_det (.slc x lo hi mx z))
  | sla x lo hi n z => exact look_det _ (lookT_det (.sla x lo hi n z))
  | lku x key kt zero ok => exact look_det _ (lookT_det (.lku x key kt zero ok))

theorem actT_det (a : AOp Od) : Det fun k => actT a P T L H nx (uk k) := (actT_detP a).det
theorem actT_up {a : AOp Od} {v : Value} {H' : Heap} {nx' : Nat} (h : ∀ k, actT a P T L H nx k = k v H' nx') : nx ≤ nx' := by
  obtain ⟨x, h1, _, h3⟩ := actT_detP (P := P) (T := T) (L := L) (H := H) (nx := nx) a (fun x => some (.normal, ⟨.e, [], .e, x.2.2⟩)) (.normal, ⟨.e, [], .e, nx'⟩) (h _)
  simp only [Option.some.injEq, Prod.mk.injEq, St.mk.injEq, true_and] at h1
  rw [← h1]
  exact h3
end Go.Eng
/- The engine: what the slots hold, as the engine goes through a region. -/
namespace Go.Eng

abbrev Sig := Nat → Value
def Sig.set (σ : Sig) (d : Option Nat) (v : Value) : Sig := match d with
  | none => σ
  | some d => fun t => if t = d then v else σ t

def evS (σ : Sig) : Operand → Value
  | .tmp t => σ t
  | .const v => v
  | .func f => .func (.func f) #[] #[]
  | .global _ => undef

/-- the engine finds each slot's value where it looks for it -/
structure EnvS (kept : List Nat) (σ : Sig) (env : Env) (T : Tr Value) (L : List Value) : Prop where
  env : ∀ t od, (t, od) ∈ env → (valO T L od).getD undef = σ t
  kept : ∀ t, isIn kept t = true → (getP T (slotPath t)).getD undef = σ t

theorem find_mem : ∀ {env : Env} {t : Nat} {x : Od}, find env t = some x → (t, x) ∈ env := by
  intro env
  induction env with
  | nil => intro t x hx; cases hx
  | cons y env ih =>
    intro t x hx
    obtain ⟨a, b⟩ := y
    unfold find at hx
    cases hb : Nat.beq a t with
    | true =>
      rw [hb] at hx; cases hx
      have := Nat.eq_of_beq_eq_true hb
      subst this
      exact List.mem_cons_self
    | false => rw [hb] at hx; exact List.mem_cons_of_mem _ (ih hx)
variable {P : Program} {ins kept : List Nat} {n : Nat} {A : AProg} {rn : Run} {σ : Sig} {T : Tr Value} {L : List Value} {D : List Dfd} {H : Heap} {nx : Nat} {env : Env} {ops : List Oper}

theorem EnvS.ofFind (h : EnvS kept σ env T L) {t : Nat} {od : Od} (hf : find env t = some od) : (valO T L od).getD undef = σ t := h.env t od (find_mem hf)

theorem cv_S (h : EnvS kept σ env T L) {x : Operand} {od : Od} (hc : cv kept n env x = some od) : (valO T L od).getD undef = evS σ x := by
  cases x with
  | tmp t =>
    simp only [cv] at hc
    cases hb : Nat.blt t n with
    | false => rw [hb] at hc; cases hc
    | true =>
      rw [hb] at hc
      simp only [cond_true] at hc
      cases hf : find env t with
      | some y => rw [hf] at hc; cases hc; exact h.ofFind hf
      | none =>
        rw [hf] at hc
        cases hk : isIn kept t with
        | false => rw [hk] at hc; cases hc
        | true => rw [hk] at hc; cases hc; exact h.kept t hk
  | const v =>
    simp only [cv] at hc
    cases hk : constOk v with
    | false => rw [hk] at hc; cases hc
    | true => rw [hk] at hc; cases hc; rfl
  | func f => cases hc; rfl
  | global g => cases hc

theorem map_congr {α β : Type} {f g : α → β} {a : AOp α} (h : a.all fun x => f x = g x) : a.map f = a.map g := by
  have hl : ∀ l : List α, (∀ x ∈ l, f x = g x) → l.map f = l.map g := fun l h => List.map_congr_left h
  have ho : ∀ o : Option α, (∀ x ∈ o, f x = g x) → o.map f = o.map g := by
    intro o h
    cases o with
    | none => rfl
    | some x => rw [Option.map_some, Option.map_some, h x rfl]
  have hp : ∀ l : List (Nat × Nat × α), (∀ x ∈ l, f x.2.2 = g x.2.2) → (l.map fun x => (x.1, x.2.1, f x.2.2)) = l.map fun x => (x.1, x.2.1, g x.2.2) := fun l h => List.map_congr_left fun x hx => by rw [h x hx]
  cases a <;> simp only [AOp.all, AOp.map] at h ⊢ <;> first | rfl | skip
  all_goals grind

/-- an operation over its operands' values -/
theorem trav_S {a : AOp Operand} {b : AOp Od} (h : a.trav (cv kept n env) = some b) (he : EnvS kept σ env T L) : b.map (cstv T L) = a.map (Av (evS σ)) := by
  rw [trav_cst h]
  obtain ⟨_, h2⟩ := trav_sound (.loc 0) h
  refine map_congr (all_mono (fun x hx => ?_) h2)
  obtain ⟨y, hy⟩ := hx
  show Od.cst ((valO T L ((cv kept n env x).getD (.loc 0))).getD undef) = Od.cst (evS σ x)
  rw [hy, Option.getD_some, cv_S he hy]
end Go.Eng
/- The engine: an operation's value is put away; slots are moved into the list. -/
namespace Go.Eng
variable {P : Program} {ins kept : List Nat} {n : Nat} {A : AProg} {rn : Run} {σ : Sig} {T : Tr Value} {L : List Value} {D : List Dfd} {H : Heap} {nx : Nat} {env : Env} {ops : List Oper}

theorem mem_shift {env : Env} {t : Nat} {od : Od} : (t, od) ∈ shiftAll env ↔ ∃ x, (t, x) ∈ env ∧ od = shift x := by
  unfold shiftAll
  rw [List.mem_map]
  constructor
  · rintro ⟨⟨u, x⟩, h, e⟩
    cases e
    exact ⟨x, h, rfl⟩
  · rintro ⟨x, h, rfl⟩
    exact ⟨(t, x), h, rfl⟩

theorem mem_without {env : Env} {d t : Nat} {od : Od} : (t, od) ∈ without env d ↔ (t, od) ∈ env ∧ t ≠ d := by
  unfold without
  rw [List.mem_filter]
  constructor
  · rintro ⟨h, e⟩
    refine ⟨h, fun e' => ?_⟩
    subst e'
    simp at e
  · rintro ⟨h, e⟩
    refine ⟨h, ?_⟩
    simp only [Bool.not_eq_true']
    cases hb : Nat.beq t d with
    | false => rfl
    | true => exact absurd (Nat.eq_of_beq_eq_true hb) e

theorem EnvS.shift (h : EnvS kept σ env T L) (v : Value) : EnvS kept σ (shiftAll env) T (v :: L) := by
  refine ⟨fun t od ht => ?_, h.kept⟩
  obtain ⟨x, hx, rfl⟩ := mem_shift.1 ht
  rw [valO_shift]
  exact h.env t x hx

/-- an operation's value is put away -/
theorem EnvS.put {v : Value} {d : Nat} {keep : Option (List Bool)} {T' : Tr Value} (h : EnvS kept σ env T L)
    (hT : (keep = none ∧ T' = T ∧ isIn kept d = false) ∨ (∃ p, keep = some p ∧ p = slotPath d ∧ T' = insP p T (some v) ∧ (shiftAll env).any (fun e => isVar p e.2) = false)) :
    EnvS kept (σ.set (some d) v) ((d, .loc 0) :: without (shiftAll env) d) T' (v :: L) := by
  refine ⟨fun t od ht => ?_, fun t ht => ?_⟩
  · rcases List.mem_cons.1 ht with e | hm
    · cases e
      show v = if d = d then v else σ d
      rw [if_pos rfl]
    · obtain ⟨hm, hne⟩ := mem_without.1 hm
      have hs : Sig.set σ (some d) v t = σ t := if_neg hne
      rw [hs, ← (h.shift v).env t od hm]
      rcases hT with ⟨_, rfl, _⟩ | ⟨p, _, _, rfl, hany⟩
      · rfl
      · cases od with
        | var q =>
          have hq : q ≠ p := by
            intro e; subst e
            exact List.any_eq_false.1 hany _ hm (isVar_iff.2 rfl)
          show (getP (insP p T (some v)) q).getD undef = (getP T q).getD undef
          rw [getP_insP_ne _ _ _ _ hq]
        | _ => rfl
  · rcases hT with ⟨_, rfl, hk⟩ | ⟨p, _, rfl, rfl, _⟩
    · have : t ≠ d := by intro e; subst e; rw [hk] at ht; cases ht
      have hs : Sig.set σ (some d) v t = σ t := if_neg this
      rw [hs]
      exact h.kept t ht
    · by_cases htd : t = d
      · subst htd
        rw [getP_insP]
        show v = if t = t then v else σ t
        rw [if_pos rfl]
      · have hs : Sig.set σ (some d) v t = σ t := if_neg htd
        rw [hs, getP_insP_ne _ _ _ _ (by rw [slotPath_eq, slotPath_eq]; exact fun e => htd (at_inj e))]
        exact h.kept t ht

/-- what stays as it is, but for the slots' places -/
structure SameBut (s s' : Laid) : Prop where
  loads : s'.loads = s.loads
  heavy : s'.heavy = s.heavy
  make : s'.make = s.make
  done : s'.done = s.done

theorem spill_run {p : List Bool} {rest : List Oper} : ∀ (l : Env) (s : Laid), ∃ new, (spillVar p rest l s).out = new.reverse ++ s.out ∧ SameBut s (spillVar p rest l s) ∧
    (∀ t od, (t, od) ∈ (spillVar p rest l s).env → (∃ od', (t, od') ∈ s.env) ∨ ∃ od', (t, od') ∈ l) ∧
    ∀ later T L D H nx r σ, runOps A rn (new ++ later) T L D H nx = some r → EnvS kept σ s.env T L → (∀ t, (t, .var p) ∈ l → (getP T p).getD undef = σ t) →
      ∃ L', runOps A rn later T L' D H nx = some r ∧ EnvS kept σ (spillVar p rest l s).env T L' := by
  intro l
  induction l with
  | nil => intro s; exact ⟨[], rfl, ⟨rfl, rfl, rfl, rfl⟩, fun t od h => .inl ⟨od, h⟩, fun later T L D H nx r σ h he _ => ⟨L, h, he⟩⟩
  | cons y l ih =>
    intro s
    obtain ⟨t, x⟩ := y
    unfold spillVar
    cases hv : isVar p x with
    | false =>
      simp only [cond_false]
      obtain ⟨new, h1, h2, h3, h4⟩ := ih s
      refine ⟨new, h1, h2, fun t od h => ?_, fun later T L D H nx r σ h he hl => h4 later T L D H nx r σ h he fun t ht => hl t (List.mem_cons_of_mem _ ht)⟩
      rcases h3 t od h with h | ⟨od', h⟩
      · exact .inl h
      · exact .inr ⟨od', List.mem_cons_of_mem _ h⟩
    | true =>
      have hx := isVar_iff.1 hv
      subst hx
      simp only [cond_true]
      cases hr : readLater t rest with
      | false =>
        simp only [cond_false]
        obtain ⟨new, h1, h2, h3, h4⟩ := ih { s with env := without s.env t }
        refine ⟨new, h1, ⟨h2.loads, h2.heavy, h2.make, h2.done⟩, fun t' od h => ?_, fun later T L D H nx r σ h he hl => h4 later T L D H nx r σ h ⟨fun u od hu => he.env u od (mem_without.1 hu).1, he.kept⟩ fun t ht => hl t (List.mem_cons_of_mem _ ht)⟩
        rcases h3 t' od h with ⟨od', h⟩ | ⟨od', h⟩
        · exact .inl ⟨od', (mem_without.1 h).1⟩
        · exact .inr ⟨od', List.mem_cons_of_mem _ h⟩
      | true =>
        simp only [cond_true]
        obtain ⟨new, h1, h2, h3, h4⟩ := ih { s with env := (t, .loc 0) :: without (shiftAll s.env) t, out := (⟨none, none, .mov (.var p)⟩, []) :: s.out }
        refine ⟨(⟨none, none, .mov (.var p)⟩, []) :: new, ?_, ⟨h2.loads, h2.heavy, h2.make, h2.done⟩, fun t' od h => ?_, fun later T L D H nx r σ h he hl => ?_⟩
        · rw [h1]
          simp
        · rcases h3 t' od h with ⟨od', h⟩ | ⟨od', h⟩
          · rcases List.mem_cons.1 h with e | h
            · cases e
              exact .inr ⟨.var p, List.mem_cons_self⟩
            · obtain ⟨x, hx, _⟩ := mem_shift.1 (mem_without.1 h).1
              exact .inl ⟨x, hx⟩
          · exact .inr ⟨od', List.mem_cons_of_mem _ h⟩
        · have h' : evK T L (.var p) (fun v => contO A.P none [] (runOps A rn (new ++ later)) T L D v H nx) = some r := h
          rw [evK_eq] at h'
          obtain ⟨v, hv, h5⟩ := bd_eq h'
          rw [contO_nil] at h5
          have hvt : v = σ t := by
            have := hl t List.mem_cons_self
            have hv' : getP T p = some v := hv
            rw [hv'] at this
            exact this
          refine h4 later T (v :: L) D H nx r σ h5 ⟨fun u od hu => ?_, he.kept⟩ fun t ht => hl t (List.mem_cons_of_mem _ ht)
          rcases List.mem_cons.1 hu with e | hu
          · cases e
            exact hvt
          · exact (he.shift v).env u od (mem_without.1 hu).1
end Go.Eng
/- The engine: what one step of a region comes to. -/
namespace Go.Eng
variable {P : Program} {ins kept : List Nat} {n : Nat} {A : AProg} {rn : Run} {σ : Sig} {T : Tr Value} {L : List Value} {D : List Dfd} {H : Heap} {nx : Nat} {env : Env} {ops : List Oper}

theorem opT_det {b : AOp Od} {p : Option (List Bool)} {ag : List Again} {k : RL} {r : Ex × St} (h : opT b A rn p ag k b T L D H nx = some r) :
    (∃ v D' H' nx', (∀ p' ag' k', opT b A rn p' ag' k' b T L D H nx = contO A.P p' ag' k' T L D' v H' nx') ∧ contO A.P p ag k T L D' v H' nx' = some r ∧ (b.plain = true → D' = D)) ∨
    (∃ ch H' nx', r = (.panic ch, ⟨T, D, H', nx'⟩) ∧ ∀ p' ag' k', opT b A rn p' ag' k' b T L D H nx = some r) := by
  have onret : ∀ (o : Option CRet), bd o (onRet A.P p ag k T L D) = some r →
      (∃ v D' H' nx', (∀ p' ag' k', bd o (onRet A.P p' ag' k' T L D) = contO A.P p' ag' k' T L D' v H' nx') ∧ contO A.P p ag k T L D' v H' nx' = some r) ∨
      (∃ ch H' nx', r = (.panic ch, ⟨T, D, H', nx'⟩) ∧ ∀ p' ag' k', bd o (onRet A.P p' ag' k' T L D) = some r) := by
    intro o ho
    obtain ⟨c, rfl, h1⟩ := bd_eq ho
    cases c with
    | ok v H' nx' => exact .inl ⟨v, D, H', nx', fun _ _ _ => rfl, h1⟩
    | pan ch H' nx' =>
      have h2 : some (Ex.panic ch, (⟨T, D, H', nx'⟩ : St)) = some r := h1
      cases h2
      exact .inr ⟨ch, H', nx', rfl, fun _ _ _ => rfl⟩
  by_cases hp : b.plain = true
  · rw [opT_plain hp] at h ⊢
    have h' : actT b A.P T L H nx (uk fun x => contO A.P p ag k T L D x.1 x.2.1 x.2.2) = some r := h
    obtain ⟨x, h1, h2⟩ := actT_det b _ r h'
    exact .inl ⟨x.1, D, x.2.1, x.2.2, fun p' ag' k' => h2 fun x => contO A.P p' ag' k' T L D x.1 x.2.1 x.2.2, h1, fun _ => rfl⟩
  · cases b with
    | call f args =>
      have h' : evK T L f (fun f => evsK T L args fun vs => targetK vs (fun g vs => bd (rn.call g vs H nx) (onRet A.P p ag k T L D)) f) = some r := h
      rw [evK_eq] at h'
      obtain ⟨fv, hfv, h1⟩ := bd_eq h'
      rw [evsK_eq] at h1
      obtain ⟨vs, hvs, h2⟩ := bd_eq h1
      have e : ∀ p' ag' k', opT (.call f args) A rn p' ag' k' (.call f args) T L D H nx = targetK vs (fun g vs => bd (rn.call g vs H nx) (onRet A.P p' ag' k' T L D)) fv := by
        intro p' ag' k'
        show evK T L f (fun f => evsK T L args fun vs => targetK vs (fun g vs => bd (rn.call g vs H nx) (onRet A.P p' ag' k' T L D)) f) = _
        rw [evK_eq, hfv]
        show evsK T L args _ = _
        rw [evsK_eq, hvs]
        rfl
      unfold targetK at h2
      split at h2
      · rcases onret _ h2 with ⟨v, D', H', nx', g1, g2⟩ | ⟨ch, H', nx', g1, g2⟩
        · exact .inl ⟨v, D', H', nx', fun p' ag' k' => (e p' ag' k').trans (g1 p' ag' k'), g2, fun hp' => absurd hp' hp⟩
        · exact .inr ⟨ch, H', nx', g1, fun p' ag' k' => (e p' ag' k').trans (g2 p' ag' k')⟩
      · cases h2
    | inv x name args =>
      have h' : evK T L x (fun x => evsK T L args fun vs => invV A.P name H (fun g v => bd (rn.call g (v :: vs) H nx) (onRet A.P p ag k T L D)) x) = some r := h
      rw [evK_eq] at h'
      obtain ⟨fv, hfv, h1⟩ := bd_eq h'
      rw [evsK_eq] at h1
      obtain ⟨vs, hvs, h2⟩ := bd_eq h1
      have e : ∀ p' ag' k', opT (.inv x name args) A rn p' ag' k' (.inv x name args) T L D H nx = invV A.P name H (fun g v => bd (rn.call g (v :: vs) H nx) (onRet A.P p' ag' k' T L D)) fv := by
        intro p' ag' k'
        show evK T L x (fun x => evsK T L args fun vs => invV A.P name H (fun g v => bd (rn.call g (v :: vs) H nx) (onRet A.P p' ag' k' T L D)) x) = _
        rw [evK_eq, hfv]
        show evsK T L args _ = _
        rw [evsK_eq, hvs]
        rfl
      have hd : DetP (fun _ => True) fun k' : FuncId × Value → R0 => invV A.P name H (fun g v => k' (g, v)) fv := by
        unfold invV
        split
        · refine .bd fun m => ?_
          unfold recvK
          cases m.2 with
          | none => exact .ret _ trivial
          | some agg => exact .ptr fun _ _ => .cellsR fun _ => .bd fun _ => .ret _ trivial
        · exact .no
      obtain ⟨y, g1, g2⟩ := hd.det (fun y => bd (rn.call y.1 (y.2 :: vs) H nx) (onRet A.P p ag k T L D)) r h2
      have e2 : ∀ p' ag' k', opT (.inv x name args) A rn p' ag' k' (.inv x name args) T L D H nx = bd (rn.call y.1 (y.2 :: vs) H nx) (onRet A.P p' ag' k' T L D) := fun p' ag' k' =>
        (e p' ag' k').trans (g2 fun y => bd (rn.call y.1 (y.2 :: vs) H nx) (onRet A.P p' ag' k' T L D))
      rcases onret _ g1 with ⟨v, D', H', nx', q1, q2⟩ | ⟨ch, H', nx', q1, q2⟩
      · exact .inl ⟨v, D', H', nx', fun p' ag' k' => (e2 p' ag' k').trans (q1 p' ag' k'), q2, fun hp' => absurd hp' hp⟩
      · exact .inr ⟨ch, H', nx', q1, fun p' ag' k' => (e2 p' ag' k').trans (q2 p' ag' k')⟩
    | dfr f args =>
      have h' : evK T L f (fun f => evsK T L args fun vs => onFn f (contO A.P p ag k T L ((f, vs) :: D) undef H nx)) = some r := h
      rw [evK_eq] at h'
      obtain ⟨fv, hfv, h1⟩ := bd_eq h'
      rw [evsK_eq] at h1
      obtain ⟨vs, hvs, h2⟩ := bd_eq h1
      refine .inl ⟨undef, (fv, vs) :: D, H, nx, fun p' ag' k' => ?_, ?_, fun hp' => absurd hp' hp⟩
      · show evK T L f (fun f => evsK T L args fun vs => onFn f (contO A.P p' ag' k' T L ((f, vs) :: D) undef H nx)) = _
        rw [evK_eq, hfv]
        show evsK T L args _ = _
        rw [evsK_eq, hvs]
        show onFn fv _ = _
        unfold onFn at h2 ⊢
        split at h2
        · rfl
        · cases h2
      · unfold onFn at h2
        split at h2
        · exact h2
        · cases h2
    | pan x =>
      have h' : evK T L x (panV T D H nx) = some r := h
      rw [evK_eq] at h'
      obtain ⟨v, hv, h1⟩ := bd_eq h'
      have h1' := h1
      unfold panV at h1
      split at h1
      · cases h1
        refine .inr ⟨_, _, _, rfl, fun p' ag' k' => ?_⟩
        show evK T L x (panV T D H nx) = _
        rw [evK_eq, hv]
        exact h1'
      · cases h1
    | rcv => cases h
    | ins z bytes s i v =>
      have h' : actT (.ins z bytes s i v) A.P T L H nx (uk fun x => contO A.P p ag k T L D x.1 x.2.1 x.2.2) = some r := h
      obtain ⟨x, h1, h2⟩ := actT_det _ _ r h'
      exact .inl ⟨x.1, D, x.2.1, x.2.2, fun p' ag' k' => h2 fun x => contO A.P p' ag' k' T L D x.1 x.2.1 x.2.2, h1, fun _ => rfl⟩
    | _ => exact absurd rfl hp
end Go.Eng
/- The engine: one step of a region, with its value put away. -/
namespace Go.Eng
variable {P : Program} {ins kept : List Nat} {n : Nat} {A : AProg} {rn : Run} {σ : Sig} {T : Tr Value} {L : List Value} {D : List Dfd} {H : Heap} {nx : Nat} {env : Env} {ops : List Oper}

/-- the guard, as the slots have it -/
def wantS (ops : List Oper) (σ : Sig) (g : Option (Nat × Bool)) : Bool := match g with
  | none => true
  | some (j, w) => match (ops[j]?).bind (·.dst) with
    | some t => wantB w (σ t)
    | none => false

theorem guard_S {c : Option (Nat × Bool)} {g : Option (Nat × Bool)} (h : guardC ops env c = some g) (he : EnvS kept σ env T L) : wanted L g = wantS ops σ c := by
  cases c with
  | none => cases h; rfl
  | some p =>
    obtain ⟨j, want⟩ := p
    simp only [guardC] at h
    cases hj : ops[j]? with
    | none => rw [hj] at h; cases h
    | some q =>
      rw [hj] at h
      simp only at h
      cases hd : q.dst with
      | none => rw [hd] at h; cases h
      | some t =>
        rw [hd] at h
        simp only at h
        cases hf : find env t with
        | none => rw [hf] at h; cases h
        | some x =>
          rw [hf] at h
          simp only [Option.map_eq_some_iff] at h
          obtain ⟨d, hx, rfl⟩ := h
          have hx' : x = .loc d := by cases x <;> simp [locOf] at hx; rw [hx]
          subst hx'
          have hv := he.ofFind hf
          have hs : wantS ops σ (some (j, want)) = wantB want (σ t) := by simp only [wantS, hj, Option.bind_some, hd]
          rw [hs, ← hv]
          show wantO want (nthO L d) = wantB want ((L[d]?).getD undef)
          rw [nthO_eq]
          cases L[d]? <;> rfl

def kv0 : KV := fun v => some (.normal, ⟨.n .e (some v) .e, [], .e, 0⟩)

/-- an operation that looks at the heap at most: over its operands' values -/
theorem look_S {a : AOp Operand} {b : AOp Od} {u : Value} (h : a.trav (cv kept n env) = some b) (he : EnvS kept σ env T L) (hl : ∀ k, lookT b P T L H k = k u) :
    ∀ T' L' k, lookT (a.map (Av (evS σ))) P T' L' H k = k u := by
  intro T' L' k
  have h1 := lookT_to T' L' (hl kv0)
  rw [trav_S h he] at h1
  obtain ⟨x, g1, g2⟩ := lookT_det (P := P) (T := T') (L := L') (H := H) _ _ _ h1
  have : x = u := by
    have e : kv0 x = kv0 u := g1
    unfold kv0 at e
    simp only [Option.some.injEq, Prod.mk.injEq, St.mk.injEq, Tr.n.injEq, true_and, and_true] at e
    exact e
  subst this
  exact g2 k

theorem act_S {a : AOp Operand} {b : AOp Od} {v : Value} {H' : Heap} {nx' : Nat} (h : a.trav (cv kept n env) = some b) (he : EnvS kept σ env T L) (hl : ∀ k, actT b P T L H nx k = k v H' nx') :
    ∀ T' L' k, actT (a.map (Av (evS σ))) P T' L' H nx k = k v H' nx' := by
  intro T' L' k
  have h1 := actT_to T' L' (hl fun v H nx => some (.normal, ⟨.n .e (some v) .e, [], H, nx⟩))
  rw [trav_S h he] at h1
  obtain ⟨x, g1, g2⟩ := actT_det (P := P) (T := T') (L := L') (H := H) (nx := nx) _ (fun x => some (.normal, ⟨.n .e (some x.1) .e, [], x.2.1, x.2.2⟩)) _ h1
  have : x = (v, H', nx') := by
    obtain ⟨x1, x2, x3⟩ := x
    simp only [Option.some.injEq, Prod.mk.injEq, St.mk.injEq, Tr.n.injEq, true_and, and_true] at g1
    obtain ⟨rfl, rfl, rfl⟩ := g1
    rfl
  subst this
  exact g2 fun x => k x.1 x.2.1 x.2.2

/-- a load, looked at again: it reads what it read -/
def AgainJ (P : Program) (ops : List Oper) (bef : List Nat) (done : Nat) (σ : Sig) (H : Heap) (j : Nat) : Prop :=
  ∃ q a t, ops[j]? = some q ∧ compileOp P [] q = some a ∧ q.dst = some t ∧ readsStill ops bef done j q = true ∧
    (wantS ops σ q.guard = true → ∃ u, (∀ T L k, lookT (a.map (Av (evS σ))) P T L H k = k u) ∧ veq (σ t) u = true)

theorem again1_some {X : R0} {r : Ex × St} {a : Again} (h : again1 P T L H a X = some r) : X = some r ∧ (wanted L a.guard = true → ∃ u u', (∀ k, lookT a.op P T L H k = k u) ∧ L[a.d]? = some u' ∧ veq u' u = true) := by
  have h' : cond (wanted L a.guard) (lookT a.op P T L H fun v => nthK L a.d fun u => cond (veq u v) X none) X = some r := h
  cases hw : wanted L a.guard with
  | false =>
    rw [hw] at h'
    exact ⟨h', fun h => by cases h⟩
  | true =>
    rw [hw] at h'
    obtain ⟨v, q1, q2⟩ := lookT_det (P := P) (T := T) (L := L) (H := H) _ _ _ h'
    rw [nthK_eq] at q1
    obtain ⟨u, hu, q3⟩ := bd_eq q1
    have q4 : cond (veq u v) X none = some r := q3
    cases hv : veq u v with
    | false => rw [hv] at q4; cases q4
    | true => rw [hv] at q4; exact ⟨q4, fun _ => ⟨v, u, q2, hu, hv⟩⟩

theorem agains_S {bef : List Nat} {done bh : Nat} {X : R0} {r : Ex × St} (he : EnvS kept σ env T L) : ∀ {l : List Nat} {as : List Again}, againsC P kept n ops bef done env bh l = some as → againK P T L H as X = some r →
    X = some r ∧ ∀ j ∈ l, Nat.testBit bh j = false → AgainJ P ops bef done σ H j := by
  intro l
  induction l with
  | nil =>
    intro as h hk
    cases h
    exact ⟨hk, fun j hj => by simp at hj⟩
  | cons j l ih =>
    intro as h hk
    unfold againsC at h
    cases h0 : againsC P kept n ops bef done env bh l with
    | none => rw [h0] at h; cases h
    | some bs =>
      rw [h0] at h
      simp only at h
      cases hb : Nat.testBit bh j with
      | true =>
        rw [hb] at h
        simp only [cond_true, Option.some.injEq] at h
        subst h
        obtain ⟨g1, g2⟩ := ih h0 hk
        refine ⟨g1, fun i hi hib => ?_⟩
        rcases List.mem_cons.1 hi with rfl | hi
        · rw [hb] at hib; cases hib
        · exact g2 i hi hib
      | false =>
        rw [hb] at h
        simp only [cond_false] at h
        cases hq : ops[j]? with
        | none => rw [hq] at h; cases h
        | some q =>
          rw [hq] at h
          simp only at h
          cases hs : readsStill ops bef done j q with
          | false => rw [hs] at h; cases h
          | true =>
            rw [hs] at h
            simp only [Bool.not_true, cond_false] at h
            split at h
            · rename_i a g d ha hg hd
              simp only [Option.some.injEq] at h
              subst h
              obtain ⟨g1, g2⟩ := again1_some hk
              obtain ⟨k1, k2⟩ := ih h0 g1
              refine ⟨k1, fun i hi hib => ?_⟩
              rcases List.mem_cons.1 hi with rfl | hi
              · obtain ⟨a0, ha0, ht⟩ := Option.bind_eq_some_iff.1 ha
                obtain ⟨od, hod, hloc⟩ := Option.bind_eq_some_iff.1 hd
                obtain ⟨t, hdst, hf⟩ := Option.bind_eq_some_iff.1 hod
                have hx' : od = .loc d := by cases od <;> simp [locOf] at hloc; rw [hloc]
                subst hx'
                refine ⟨q, a0, t, hq, ha0, hdst, hs, fun hw => ?_⟩
                obtain ⟨u, u', p1, p2, p3⟩ := g2 ((guard_S hg he).trans hw)
                refine ⟨u, look_S ht he p1, ?_⟩
                have := he.ofFind hf
                rw [← this]
                show veq ((L[d]?).getD undef) u = true
                have p2' : L[d]? = some u' := p2
                rw [p2']
                exact p3
              · exact k2 i hi hib
            · cases h
end Go.Eng
/- The engine: one operation of a region, laid and run. -/
namespace Go.Eng
variable {P : Program} {ins kept : List Nat} {n : Nat} {A : AProg} {rn : Run} {σ : Sig} {T : Tr Value} {L : List Value} {D : List Dfd} {H : Heap} {nx : Nat} {env : Env} {ops : List Oper}

/-- what one operation comes to: another name for a value, passed over, or done -/
inductive Step (A : AProg) (rn : Run) (o : Oper) (b : AOp Od) (g : Option (Nat × Bool)) (T : Tr Value) (L : List Value) (D : List Dfd) (H : Heap) (nx : Nat) : Value → List Dfd → Heap → Nat → Prop
  | alias (od : Od) (hb : b = .mov od) (hm : isMove o.op = true) (hg : g = none) : Step A rn o b g T L D H nx ((valO T L od).getD undef) D H nx
  | over (hw : wanted L g = false) : Step A rn o b g T L D H nx undef D H nx
  | did (hw : wanted L g = true) (v : Value) (D' : List Dfd) (H' : Heap) (nx' : Nat) (h : ∀ p ag k, opT b A rn p ag k b T L D H nx = contO A.P p ag k T L D' v H' nx') (hd : b.plain = true → D' = D) :
      Step A rn o b g T L D H nx v D' H' nx'

theorem keepOf_none {d : Option Nat} {t : Nat} (h : keepOf kept d = none) (ht : d = some t) : isIn kept t = false := by
  subst ht
  cases hk : isIn kept t with
  | false => rfl
  | true => simp [keepOf, hk] at h

theorem keepOf_some {d : Option Nat} {p : List Bool} (h : keepOf kept d = some p) : ∃ t, d = some t ∧ p = slotPath t ∧ isIn kept t = true := by
  cases d with
  | none => simp [keepOf] at h
  | some t =>
    cases hk : isIn kept t with
    | false => simp [keepOf, hk] at h
    | true =>
      simp [keepOf, hk] at h
      exact ⟨t, rfl, h.symm, hk⟩

def putT (T : Tr Value) (p : Option (List Bool)) (v : Value) : Tr Value := match p with
  | none => T
  | some p => insP p T (some v)
theorem keepK_put {p : Option (List Bool)} {v : Value} {k : Tr Value → R0} : keepK T p v k = k (putT T p v) := by
  rw [keepK_eq]
  cases p <;> rfl

theorem emit_run {bef : List Nat} {bm : Nat} {o : Oper} {g : Option (Nat × Bool)} {a : AOp Od} {s s1 : Laid} (h : emit P kept n ops bef bm o g a s = some s1) :
    ∃ as, s1.out = (⟨keepOf kept o.dst, g, a⟩, as) :: s.out ∧ SameBut s s1 ∧ (∀ t od, (t, od) ∈ s1.env → some t = o.dst ∨ ∃ od', (t, od') ∈ s.env) ∧ (isHeavy (kdOf a) = false → as = []) ∧
      ∀ later T L D H nx r σ, A.P = P → runOps A rn ((⟨keepOf kept o.dst, g, a⟩, as) :: later) T L D H nx = some r → EnvS kept σ s.env T L →
        (∃ v D' H' nx' T', Step A rn o a g T L D H nx v D' H' nx' ∧ runOps A rn later T' (v :: L) D' H' nx' = some r ∧ EnvS kept (σ.set o.dst v) s1.env T' (v :: L) ∧
          (isHeavy (kdOf a) = true → ∀ j ∈ s.loads, Nat.testBit bm j = false → AgainJ P ops bef s.done (σ.set o.dst v) H' j)) ∨
        (wanted L g = true ∧ ∃ ch H' nx', r = (.panic ch, ⟨T, D, H', nx'⟩) ∧ ∀ p ag k, opT a A rn p ag k a T L D H nx = some r) := by
  unfold emit at h
  generalize henv1 : envAfter s.env o.dst = env1 at h
  split at h
  · cases h
  · rename_i as has
    have hdom : ∀ t od, (t, od) ∈ env1 → some t = o.dst ∨ ∃ od', (t, od') ∈ s.env := by
      intro t od ht
      subst henv1
      cases hd : o.dst with
      | none =>
        rw [hd] at ht
        obtain ⟨x, hx, _⟩ := mem_shift.1 ht
        exact .inr ⟨x, hx⟩
      | some d =>
        rw [hd] at ht
        rcases List.mem_cons.1 ht with e | ht
        · cases e; exact .inl rfl
        · obtain ⟨x, hx, _⟩ := mem_shift.1 (mem_without.1 ht).1
          exact .inr ⟨x, hx⟩
    -- the value put away
    have hput : ∀ (T : Tr Value) (L : List Value) (σ : Sig) (v : Value), EnvS kept σ s.env T L → (∀ p, keepOf kept o.dst = some p → (shiftAll s.env).any (fun e => isVar p e.2) = false) →
        EnvS kept (σ.set o.dst v) env1 (putT T (keepOf kept o.dst) v) (v :: L) := by
      intro T L σ v he hany
      subst henv1
      cases hd : o.dst with
      | none =>
        have : keepOf kept (none : Option Nat) = none := rfl
        rw [this]
        exact he.shift v
      | some d =>
        rw [hd] at hany
        cases hk : keepOf kept (some d) with
        | none => exact he.put (keep := none) (.inl ⟨rfl, rfl, keepOf_none hk rfl⟩)
        | some p =>
          obtain ⟨t, ht, hp, _⟩ := keepOf_some hk
          cases ht
          exact he.put (keep := some p) (.inr ⟨p, rfl, hp, rfl, hany p hk⟩)
    have hfin : s1.env = env1 ∧ s1.out = (⟨keepOf kept o.dst, g, a⟩, as) :: s.out ∧ SameBut s s1 ∧ (∀ p, keepOf kept o.dst = some p → (shiftAll s.env).any (fun e => isVar p e.2) = false) := by
      split at h
      · rename_i hk
        cases h
        rw [hk]
        exact ⟨rfl, rfl, ⟨rfl, rfl, rfl, rfl⟩, fun p hp => by cases hp⟩
      · rename_i p hk
        cases hany : (shiftAll s.env).any (fun e => isVar p e.2) with
        | true => rw [hany] at h; cases h
        | false =>
          rw [hany] at h
          cases h
          rw [hk]
          exact ⟨rfl, rfl, ⟨rfl, rfl, rfl, rfl⟩, fun q hq => by cases hq; exact hany⟩
    obtain ⟨e1, e2, e3, e4⟩ := hfin
    refine ⟨as, e2, e3, fun t od ht => hdom t od (by rw [← e1]; exact ht), fun hh => by rw [hh] at has; cases has; rfl, fun later T L D H nx r σ hA hr he => ?_⟩
    -- what comes behind
    have hcont : ∀ v D' H' nx', contO A.P (keepOf kept o.dst) as (runOps A rn later) T L D' v H' nx' = some r →
        ∃ T', runOps A rn later T' (v :: L) D' H' nx' = some r ∧ EnvS kept (σ.set o.dst v) s1.env T' (v :: L) ∧ (isHeavy (kdOf a) = true → ∀ j ∈ s.loads, Nat.testBit bm j = false → AgainJ P ops bef s.done (σ.set o.dst v) H' j) := by
      intro v D' H' nx' hc
      unfold contO at hc
      rw [keepK_put] at hc
      have hE := hput T L σ v he e4
      rw [← e1] at hE
      generalize putT T (keepOf kept o.dst) v = T' at hE hc
      refine ⟨T', ?_⟩
      cases hh : isHeavy (kdOf a) with
      | false =>
        rw [hh] at has
        cases has
        exact ⟨hc, hE, fun h => by cases h⟩
      | true =>
        rw [hh] at has
        rw [hA] at hc
        rw [e1] at hE
        obtain ⟨q1, q2⟩ := agains_S hE has hc
        exact ⟨q1, by rw [e1]; exact hE, fun _ => q2⟩
    have hr' : cond (wanted L g) (opT a A rn (keepOf kept o.dst) as (runOps A rn later) a T L D H nx) (contO A.P (keepOf kept o.dst) as (runOps A rn later) T L D undef H nx) = some r := hr
    cases hw : wanted L g with
    | false =>
      rw [hw] at hr'
      obtain ⟨T', q1, q2, q3⟩ := hcont _ _ _ _ hr'
      exact .inl ⟨undef, D, H, nx, T', .over hw, q1, q2, q3⟩
    | true =>
      rw [hw] at hr'
      rcases opT_det hr' with ⟨v, D', H', nx', g1, g2, g3⟩ | ⟨ch, H', nx', g1, g2⟩
      · obtain ⟨T', q1, q2, q3⟩ := hcont _ _ _ _ g2
        exact .inl ⟨v, D', H', nx', T', .did hw v D' H' nx' g1 g3, q1, q2, q3⟩
      · exact .inr ⟨rfl, ch, H', nx', g1, g2⟩

theorem layOp_run {rest : List Oper} {bef : List Nat} {bm : Nat} {solo : Bool} {o : Oper} {s0 s1 : Laid} (h : layOp P ins kept n ops rest bef bm solo o s0 = some s1) :
    ∃ new env a b g, compileOp P ins o = some a ∧ a.trav (cv kept n env) = some b ∧ guardC ops env o.guard = some g ∧ s1.out = new.reverse ++ s0.out ∧ SameBut s0 s1 ∧
      (∀ t od, (t, od) ∈ env → ∃ od', (t, od') ∈ s0.env) ∧ (∀ t od, (t, od) ∈ s1.env → some t = o.dst ∨ ∃ od', (t, od') ∈ s0.env) ∧
      ∀ later T L D H nx r σ, A.P = P → runOps A rn (new ++ later) T L D H nx = some r → EnvS kept σ s0.env T L → ∃ L1, EnvS kept σ env T L1 ∧
        ((∃ v D' H' nx' T' L', Step A rn o b g T L1 D H nx v D' H' nx' ∧ runOps A rn later T' L' D' H' nx' = some r ∧ EnvS kept (σ.set o.dst v) s1.env T' L' ∧
          (isHeavy (kdOf b) = true → ∀ j ∈ s0.loads, Nat.testBit bm j = false → AgainJ P ops bef s0.done (σ.set o.dst v) H' j)) ∨
        (wanted L1 g = true ∧ ∃ ch H' nx', r = (.panic ch, ⟨T, D, H', nx'⟩) ∧ ∀ p ag k, opT b A rn p ag k b T L1 D H nx = some r)) := by
  unfold layOp at h
  simp only at h
  -- the slots that are moved into the list
  have hs : ∃ new1 s, spilled (o :: rest) s0 (keepOf kept o.dst) = s ∧ s.out = new1.reverse ++ s0.out ∧ SameBut s0 s ∧ (∀ t od, (t, od) ∈ s.env → ∃ od', (t, od') ∈ s0.env) ∧
      ∀ later T L D H nx r σ, runOps A rn (new1 ++ later) T L D H nx = some r → EnvS kept σ s0.env T L → ∃ L', runOps A rn later T L' D H nx = some r ∧ EnvS kept σ s.env T L' := by
    cases hk : keepOf kept o.dst with
    | none => exact ⟨[], s0, rfl, rfl, ⟨rfl, rfl, rfl, rfl⟩, fun t od h => ⟨od, h⟩, fun later T L D H nx r σ h he => ⟨L, h, he⟩⟩
    | some p =>
      obtain ⟨new, h1, h2, h3, h4⟩ := spill_run (A := A) (rn := rn) (kept := kept) (p := p) (rest := o :: rest) s0.env s0
      refine ⟨new, _, rfl, h1, h2, fun t od h => (h3 t od h).elim id id, fun later T L D H nx r σ h he => h4 later T L D H nx r σ h he fun t ht => he.env t _ ht⟩
  obtain ⟨new1, s, hse, hout, hsame, hdom, hrun⟩ := hs
  rw [hse] at h
  split at h
  · rename_i b g hb hg
    obtain ⟨a, ha, ht⟩ := Option.bind_eq_some_iff.1 hb
    -- the operation is put down
    have hemit : emit P kept n ops bef bm o g b s = some s1 → ∃ new env a b g, compileOp P ins o = some a ∧ a.trav (cv kept n env) = some b ∧ guardC ops env o.guard = some g ∧ s1.out = new.reverse ++ s0.out ∧ SameBut s0 s1 ∧
      (∀ t od, (t, od) ∈ env → ∃ od', (t, od') ∈ s0.env) ∧ (∀ t od, (t, od) ∈ s1.env → some t = o.dst ∨ ∃ od', (t, od') ∈ s0.env) ∧
      ∀ later T L D H nx r σ, A.P = P → runOps A rn (new ++ later) T L D H nx = some r → EnvS kept σ s0.env T L → ∃ L1, EnvS kept σ env T L1 ∧
        ((∃ v D' H' nx' T' L', Step A rn o b g T L1 D H nx v D' H' nx' ∧ runOps A rn later T' L' D' H' nx' = some r ∧ EnvS kept (σ.set o.dst v) s1.env T' L' ∧
          (isHeavy (kdOf b) = true → ∀ j ∈ s0.loads, Nat.testBit bm j = false → AgainJ P ops bef s0.done (σ.set o.dst v) H' j)) ∨
        (wanted L1 g = true ∧ ∃ ch H' nx', r = (.panic ch, ⟨T, D, H', nx'⟩) ∧ ∀ p ag k, opT b A rn p ag k b T L1 D H nx = some r)) := by
      intro he
      obtain ⟨as, e1, e2, e3, _, e5⟩ := emit_run (A := A) (rn := rn) he
      refine ⟨new1 ++ [(⟨keepOf kept o.dst, g, b⟩, as)], s.env, a, b, g, ha, ht, hg, ?_, ⟨e2.loads.trans hsame.loads, e2.heavy.trans hsame.heavy, e2.make.trans hsame.make, e2.done.trans hsame.done⟩, hdom, fun t od h => ?_, fun later T L D H nx r σ hA hr hE => ?_⟩
      · rw [e1, hout]
        simp
      · rcases e3 t od h with h | ⟨od', h⟩
        · exact .inl h
        · exact .inr (hdom t od' h)
      · rw [List.append_assoc] at hr
        obtain ⟨L1, hr1, hE1⟩ := hrun _ T L D H nx r σ hr hE
        refine ⟨L1, hE1, ?_⟩
        rcases e5 later T L1 D H nx r σ hA hr1 hE1 with ⟨v, D', H', nx', T', q1, q2, q3, q4⟩ | q
        · refine .inl ⟨v, D', H', nx', T', v :: L1, q1, q2, q3, ?_⟩
          rw [← hsame.loads, ← hsame.done]
          exact q4
        · exact .inr q
    split at h
    · rename_i x t hdst
      cases hc : (keepOf kept (some t)).isNone && isMove o.op && !solo with
      | false => rw [hc] at h; exact hemit h
      | true =>
        rw [hc] at h
        simp only [cond_true, Option.some.injEq] at h
        simp only [Bool.and_eq_true, Option.isNone_iff_eq_none] at hc
        obtain ⟨⟨hk, hm⟩, _⟩ := hc
        subst h
        refine ⟨new1, s.env, a, .mov x, none, ha, ht, hg, hout, ⟨hsame.loads, hsame.heavy, hsame.make, hsame.done⟩, hdom, fun u od hu => ?_, fun later T L D H nx r σ hA hr hE => ?_⟩
        · rcases List.mem_cons.1 hu with e | hu
          · cases e; exact .inl hdst.symm
          · exact .inr (hdom u od (mem_without.1 hu).1)
        · obtain ⟨L1, hr1, hE1⟩ := hrun _ T L D H nx r σ hr hE
          refine ⟨L1, hE1, .inl ⟨(valO T L1 x).getD undef, D, H, nx, T, L1, .alias x rfl hm rfl, hr1, ?_, fun hh => by cases hh⟩⟩
          rw [hdst]
          refine ⟨fun u od hu => ?_, fun u hu => ?_⟩
          · rcases List.mem_cons.1 hu with e | hu
            · cases e
              show _ = if t = t then _ else _
              rw [if_pos rfl]
            · obtain ⟨hu, hne⟩ := mem_without.1 hu
              have hs : Sig.set σ (some t) ((valO T L1 x).getD undef) u = σ u := if_neg hne
              rw [hs]
              exact hE1.env u od hu
          · have hne : u ≠ t := by intro e; subst e; rw [keepOf_none hk rfl] at hu; cases hu
            have hs : Sig.set σ (some t) ((valO T L1 x).getD undef) u = σ u := if_neg hne
            rw [hs]
            exact hE1.kept u hu
    · exact hemit h
  · cases h
end Go.Eng
