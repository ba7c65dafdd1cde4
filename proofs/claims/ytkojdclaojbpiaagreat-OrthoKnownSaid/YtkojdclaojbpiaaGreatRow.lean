/-
  How few bends well-known nets need: 'tracerylaw26.OrthoKnown' gives true for every input, and its input reads as it did.
  Of the inputs that are let in (n from 2 to 10, face from 0 to 3) each of the 36 is computed, by an interpreter of the model's code that is proved right for every draw; of all others the walk goes to the early return.
-/
import Derived.Test.YtkojdclaojbpiaaGreatRows
import Derived.WalkKit
import Derived.ProofKit
import Derived.OpenShut
import Derived.Test.YtkojdclaojbpiaaGreatBeg
import Derived.Test.YtkojdclaojbpiaaGreatFa
import Derived.Test.YtkojdclaojbpiaaGreatFb
import Derived.Test.YtkojdclaojbpiaaGreatFc
import Derived.Test.YtkojdclaojbpiaaGreatFd
import Derived.Test.YtkojdclaojbpiaaGreatFe
import Derived.Test.YtkojdclaojbpiaaGreatFf
import Derived.Test.YtkojdclaojbpiaaGreatFg
import Derived.Test.YtkojdclaojbpiaaGreatFh
namespace Go.Proofs.YtkojdclaojbpiaaGreat.orthoKnown
open Go.Eng
open Go.ChangeShapes Go.WideShapes Go.ChangeAt Go.RowKit
set_option linter.unusedVariables false
set_option maxRecDepth 100000

def Kept (w w' : World) : Prop := w.keptBut w' fun _ => False

theorem kept_of {ρ : Rho} {H : Heap} {w w' : World} (h : Stp (fun _ => Option.none) .e w ρ H w') : Kept w w' := by
  refine ⟨h.os, h.output, fun i hi => ?_⟩
  rw [h.frame i hi (fun ⟨b, x, s, hb, _⟩ => by cases hb)]
  cases w.heap[i]? with
  | none => rfl
  | some o =>
    cases o <;> first | rfl | exact ⟨rfl, rfl, rfl, fun _ _ => rfl⟩ | exact .inr ⟨rfl, rfl⟩

theorem closed {g : FuncId} {vs : List Value} {H : Heap} {nx : Nat} (h : SaysOk Tryz.prog g vs .e 0 (.ok (.bool true) H nx)) (hv : vs.all scalar = true) (w : World) :
    Calls Tryz.prog g ⟨vs⟩ w fun e w' => e = .returned (.bool true) ∧ Kept w w' := by
  have h0 : HR (fun _ => Option.none) .e 0 w.heap := ⟨(fun b k hb => by cases hb), (fun b b' k k' s s' hb => by cases hb), fun _ _ => rfl⟩
  refine (h.2.2 _ vs w (.of_scalar hv) h0).mono fun e w' hr => ?_
  obtain ⟨u, ρ', g1, g2, g3⟩ := hr
  exact ⟨by rw [g1, g2.scalar_eq rfl], kept_of g3.stp⟩

theorem begins (w : World) : Calls Tryz.prog 11 #[] w fun e w' => e = .returned (.bool true) ∧ Kept w w' := closed (H := heapOf fb.post) (nx := fb.nx') okb rfl w

/-! ### the 36 inputs -/
def facts : List Fact := [f0, f1, f2, f3, f4, f5, f6, f7, f8, f9, f10, f11, f12, f13, f14, f15, f16, f17, f18, f19, f20, f21, f22, f23, f24, f25, f26, f27, f28, f29, f30, f31, f32, f33, f34, f35, f36, f37, f38, f39, f40, f41, f42, f43, f44, f45, f46, f47, f48, f49, f50, f51, f52, f53, f54, f55, f56, f57, f58, f59, f60, f61, f62, f63, f64, f65, f66, f67, f68]

theorem facts_ok : ∀ f ∈ facts, FactOk Tryz.prog f := by
  intro f hf
  simp only [facts, List.mem_cons, List.not_mem_nil, or_false] at hf
  rcases hf with rfl | rfl | rfl | rfl | rfl | rfl | rfl | rfl | rfl | rfl | rfl | rfl | rfl | rfl | rfl | rfl | rfl | rfl | rfl | rfl | rfl | rfl | rfl | rfl | rfl | rfl | rfl | rfl | rfl | rfl | rfl | rfl | rfl | rfl | rfl | rfl | rfl | rfl | rfl | rfl | rfl | rfl | rfl | rfl | rfl | rfl | rfl | rfl | rfl | rfl | rfl | rfl | rfl | rfl | rfl | rfl | rfl | rfl | rfl | rfl | rfl | rfl | rfl | rfl | rfl | rfl | rfl | rfl | rfl
  all_goals first | exact ok0 | exact ok1 | exact ok2 | exact ok3 | exact ok4 | exact ok5 | exact ok6 | exact ok7 | exact ok8 | exact ok9 | exact ok10 | exact ok11 | exact ok12 | exact ok13 | exact ok14 | exact ok15 | exact ok16 | exact ok17 | exact ok18 | exact ok19 | exact ok20 | exact ok21 | exact ok22 | exact ok23 | exact ok24 | exact ok25 | exact ok26 | exact ok27 | exact ok28 | exact ok29 | exact ok30 | exact ok31 | exact ok32 | exact ok33 | exact ok34 | exact ok35 | exact ok36 | exact ok37 | exact ok38 | exact ok39 | exact ok40 | exact ok41 | exact ok42 | exact ok43 | exact ok44 | exact ok45 | exact ok46 | exact ok47 | exact ok48 | exact ok49 | exact ok50 | exact ok51 | exact ok52 | exact ok53 | exact ok54 | exact ok55 | exact ok56 | exact ok57 | exact ok58 | exact ok59 | exact ok60 | exact ok61 | exact ok62 | exact ok63 | exact ok64 | exact ok65 | exact ok66 | exact ok67 | exact ok68

noncomputable def atBegun (g : FuncId) (vs : List Value) (H : Heap) (nx : Nat) : Option CRet :=
  cond (Nat.beq g 11) (List.rec (some (.ok (.bool true) H nx)) (fun _ _ _ => Option.none) vs) Option.none

theorem atBegun_ok {g : FuncId} {vs : List Value} {H : Heap} {nx : Nat} {c : CRet} (h : atBegun g vs H nx = some c) : SaysOk Tryz.prog g vs H nx c := by
  unfold atBegun at h
  cases hg : Nat.beq g 11 with
  | false => rw [hg] at h; cases h
  | true =>
    rw [hg] at h
    have := Nat.eq_of_beq_eq_true hg
    subst this
    cases vs with
    | nil =>
      have h' : some (CRet.ok (.bool true) H nx) = some c := h
      cases h'
      exact SaysOk.anywhere (H2 := heapOf fb.post) (nx2 := fb.nx') okb rfl H nx
    | cons v vs => cases h

noncomputable def hooked : AProg := ⟨Tryz.prog, fun g => getP all (at_ g), fun g vs H nx => Option.rec (useFacts facts g vs H nx) some (atBegun g vs H nx)⟩

theorem hooked_ok : AOk Tryz.prog [75] hooked := by
  refine ⟨rfl, insert, mixed, fun g vs H nx c h => ?_, fun g af h => table_ok all_ok g af h⟩
  have h' : (Option.rec (useFacts facts g vs H nx) some (atBegun g vs H nx) : Option CRet) = some c := h
  cases hb : atBegun g vs H nx with
  | some c' =>
    rw [hb] at h'
    cases h'
    exact atBegun_ok hb
  | none =>
    rw [hb] at h'
    exact useFacts_ok facts_ok h'

def arg (n : Nat) : Value := .int .i64 (.ofNat n)
def fact (n face : Nat) : Fact := ⟨4, [arg n, arg face], [], 0, .bool true, [], 100000⟩
def pairs : List (Nat × Nat) := [(2, 0), (2, 1), (2, 2), (2, 3), (3, 0), (3, 1), (3, 2), (3, 3), (4, 0), (4, 1), (4, 2), (4, 3), (5, 0), (5, 1), (5, 2), (5, 3), (6, 0), (6, 1), (6, 2), (6, 3), (7, 0), (7, 1), (7, 2), (7, 3), (8, 0), (8, 1), (8, 2), (8, 3), (9, 0), (9, 1), (9, 2), (9, 3), (10, 0), (10, 1), (10, 2), (10, 3)]

theorem computed : (pairs.all fun x => holdsFor (fact x.1 x.2) ((run hooked 100000).call 4 [arg x.1, arg x.2] .e 0)) = true := by kernel_rfl

theorem inner (n face : Nat) (h : (n, face) ∈ pairs) (w : World) : Calls Tryz.prog 4 #[arg n, arg face] w fun e w' => e = .returned (.bool true) ∧ Kept w w' := by
  have h1 := List.all_eq_true.1 computed (n, face) h
  have h2 : FactOk Tryz.prog (fact n face) := fact_of_run hooked_ok (fact n face) h1
  exact closed (vs := [arg n, arg face]) (H := heapOf (fact n face).post) (nx := (fact n face).nx') h2 rfl w

theorem pairs_mem (n face : Nat) (h1 : 2 ≤ n) (h2 : n ≤ 10) (h3 : face ≤ 3) : (n, face) ∈ pairs := by
  have hn : n = 2 ∨ n = 3 ∨ n = 4 ∨ n = 5 ∨ n = 6 ∨ n = 7 ∨ n = 8 ∨ n = 9 ∨ n = 10 := by omega
  have hf : face = 0 ∨ face = 1 ∨ face = 2 ∨ face = 3 := by omega
  rcases hn with rfl | rfl | rfl | rfl | rfl | rfl | rfl | rfl | rfl <;> rcases hf with rfl | rfl | rfl | rfl <;> decide

/-! ### all other inputs -/
theorem outer (a0 a1 : Int) (h : a0 < 2 ∨ 10 < a0 ∨ a1 < 0 ∨ 3 < a1) (w : World) :
    Calls Tryz.prog 4 #[.int .i64 a0, .int .i64 a1] w fun e w' => e = .returned (.bool true) ∧ Kept w w' := by
  have key : (a0 < 2) ∨ (¬ a0 < 2 ∧ 10 < a0) ∨ (¬ a0 < 2 ∧ ¬ 10 < a0 ∧ a1 < 0) ∨ (¬ a0 < 2 ∧ ¬ 10 < a0 ∧ ¬ a1 < 0 ∧ 3 < a1) := by omega
  have hb := begins
  rcases key with h1 | ⟨h1, h2⟩ | ⟨h1, h2, h3⟩ | ⟨h1, h2, h3, h4⟩
  all_goals
    go_enter Tryz.func4, Tryz.ntmps4
    go_wp2_with (go_at_call 11; refine (hb _).mono ?_; rintro e w' ⟨rfl, hk⟩)
    all_goals go_ret
    all_goals exact ⟨rfl, hk⟩

theorem walk (a0 a1 : Int) (w : World) : Calls Tryz.prog 4 #[.int .i64 a0, .int .i64 a1] w fun e w' => e = .returned (.bool true) ∧ Kept w w' := by
  by_cases h : a0 < 2 ∨ 10 < a0 ∨ a1 < 0 ∨ 3 < a1
  · exact outer a0 a1 h w
  · obtain ⟨n, rfl⟩ : ∃ n : Nat, a0 = Int.ofNat n := ⟨a0.toNat, by show a0 = (a0.toNat : Int); omega⟩
    obtain ⟨face, rfl⟩ : ∃ n : Nat, a1 = Int.ofNat n := ⟨a1.toNat, by show a1 = (a1.toNat : Int); omega⟩
    have h' : ¬ ((n : Int) < 2 ∨ 10 < (n : Int) ∨ (face : Int) < 0 ∨ 3 < (face : Int)) := h
    exact inner n face (pairs_mem n face (by omega) (by omega) (by omega)) w

theorem own : ownKnob Tryz.prog.godebug = Option.none := by kernel_rfl

theorem post_of_kept {H : Type} {enc : TypeId × Value → H} {P : Program} {f : Func} {s : ChangeSpec} {apart fresh handsOn : Bool} {W W' : World} {args : Array Value} {v : Value} {ds gs : List (DataW H)} {before pa pv : List MemPlace}
    (hW : DataW.Whole enc P f.params.toList s.vars apart W args.toList ds gs before)
    (hres : ∀ (b : Nat) (sp : Nat → Bool) (hd : Bool), DataW.TrodAll enc P W' b sp hd f.resultTypes.toList (v.resultList f.resultTypes.size) (s.fn H (ds ++ gs)).results [])
    (hargs : ∀ sp : Nat → Bool, (∀ p ∈ before, sp p.block = true) → DataW.TrodAll enc P W' 0 sp true f.params.toList args.toList (s.fn H (ds ++ gs)).args pa)
    (hvars : ∀ sp : Nat → Bool, (∀ p ∈ before, sp p.block = true) → DataW.TrodVars enc P W' sp s.vars (s.fn H (ds ++ gs)).vars pv)
    (hk : Kept W W') : s.post enc P f apart fresh handsOn false W args v W' := by
  have hold : ∀ p ∈ before, (fun b => decide (b < W.heap.size)) p.block = true := fun p hp => by simpa using hW.lt p hp
  exact ⟨ds, gs, before, [], pa, pv, hW, hres _ _ _, hargs _ hold, hvars _ hold, World.keptBut_mono (fun p hp => hp.elim) hk, fun h => by cases h⟩

/-! ### the row -/
theorem lifted (os : Os) (started : os.Started) (H : Type) (enc : TypeId × Value → H) :
    ReturnsInHanded {} Tryz.checked os 4 .any (Rows.orthoKnownSpec.pre6 enc Tryz.prog Tryz.f4 Rows.orthoKnownRow.domain false) (Rows.orthoKnownSpec.post enc Tryz.prog Tryz.f4 false true false false) := by
  refine returnsInHanded_of_change (C := Tryz.checked) own started (by kernel_rfl) Tryz.func4
    (ChangeSpec.witness6 (enc := enc) (C := Tryz.checked) false ⟨#[], #[.int .i64 0, .int .i64 0], []⟩ 8 (by kernel_rfl) (by kernel_rfl) (by kernel_rfl) (by kernel_rfl)) ?_
  intro W base args ds gs before hval0 hW hcnd _
  have hval : ∀ (j : Nat) t v, Tryz.f4.params[j]? = some t → args[j]? = some v → Value.okWide Tryz.prog W .any base t v := hval0
  have hW' := hW
  obtain ⟨p, q, hA0, hV, rfl, hfz, hnd⟩ := hW
  have hA : DataW.TrodAll enc Tryz.prog W 0 (fun _ => true) true Tryz.f4.params.toList args.toList ds p := hA0
  rw [Tryz.params4] at hA hval
  obtain ⟨v0, vs0, d0, ds0, p0, q0, hargs, rfl, rfl, h0, r0⟩ := trodAll_cons hA
  obtain ⟨v1, vs1, d1, ds1, p1, q1, rfl, rfl, rfl, h1, r1⟩ := trodAll_cons r0
  obtain ⟨rfl, rfl, rfl⟩ := trodAll_nil r1
  obtain rfl : args = #[v0, v1] := by cases args; simp_all
  obtain ⟨rfl, rfl⟩ := trodVars_none hV
  obtain ⟨a0, rfl, rfl, rfl, w0⟩ := open_int Tryz.underlying3 (hval 0 3 v0 rfl rfl) h0
  obtain ⟨a1, rfl, rfl, rfl, w1⟩ := open_int Tryz.underlying3 (hval 1 3 v1 rfl rfl) h1
  clear hA0 hval0
  simp only [List.append_nil] at hW'
  refine (walk a0 a1 W).mono fun e W' ⟨he, hg⟩ => ?_
  subst he
  exact ⟨_, rfl, post_of_kept (pa := []) (pv := []) hW' (fun _ _ _ => (trodAll_cons_mk (shut_bool Tryz.underlying4 _) trodAll_mk0)) (fun sp _ => (trodAll_cons_mk (shut_int Tryz.underlying3 w0) (trodAll_cons_mk (shut_int Tryz.underlying3 w1) trodAll_mk0))) (fun _ _ => rfl) hg⟩

theorem over : Rows.orthoKnownRow.holds Tryz.pinned (OpenSpec.ofChange Rows.orthoKnownSpec) :=
  OpenClaim.holds_of_wide 4 Tryz.f4 rfl rfl rfl rfl rfl rfl rfl ⟨rfl, rfl, rfl, rfl, rfl⟩ rfl rfl rfl rfl rfl (by kernel_rfl) Tryz.func4 (by kernel_rfl)
    (of_decide_eq_true (by kernel_rfl)) (by unfold Func.isWrapper; first | (rw [if_pos (by decide +kernel)]; kernel_rfl) | (rw [if_neg (by decide +kernel)]; exact ⟨rfl, rfl⟩))
    (fun os started H enc _ => lifted os started H enc)

theorem proved : Rows.OrthoKnownSaid :=
  over
#print axioms proved
end Go.Proofs.YtkojdclaojbpiaaGreat.orthoKnown
