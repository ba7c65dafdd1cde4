/-
  Orders that somebody hands in: 'tracerylaw22.OrderIs' gives true for every net and every list, and they read as they did.
  'begun' is computed by an interpreter of the model's code that is proved right for every draw; all else is shown for every input by a program logic over that interpreter.
-/
import Derived.Test.YtkojdclaojbpiaaGreatRows
import Derived.WalkKit
import Derived.ProofKit
import Derived.OpenShut
import Derived.Test.YtkojdclaojbpiaaGreatEf
import Derived.Test.YtkojdclaojbpiaaGreatWj
import Derived.Test.YtkojdclaojbpiaaGreatBo
namespace Go.Proofs.YtkojdclaojbpiaaGreat.orderIs
open Go.Eng
open Go.ChangeShapes Go.WideShapes Go.ChangeAt Go.RowKit
set_option linter.unusedVariables false
set_option maxRecDepth 100000

/-- what was there is what it was -/
def Kept (w w' : World) : Prop := w'.os = w.os ∧ w'.output = w.output ∧ ∀ i : Nat, i < w.heap.size → w'.heap[i]? = w.heap[i]?

theorem Kept.but {w w' : World} (h : Kept w w') (may : MemPlace → Prop) : w.keptBut w' may := by
  refine ⟨h.1, h.2.1, fun i hi => ?_⟩
  rw [h.2.2 i hi]
  cases w.heap[i]? with
  | none => rfl
  | some o =>
    cases o <;> first | rfl | exact ⟨rfl, rfl, rfl, fun _ _ => rfl⟩ | exact .inr ⟨rfl, rfl⟩

theorem kept_of {ρ ρ' : Rho} {H H' : Heap} {w w' : World} (hro : ∀ b k, getP H (at_ b) = some k → k.mine = false) (h : Stp ρ H w ρ' H' w') : Kept w w' :=
  ⟨h.os, h.output, fun i hi => h.frame i hi (fun ⟨b, x, s, hb, hm, _⟩ => by rw [hro b x hb] at hm; cases hm)⟩

noncomputable def atBegun (g : FuncId) (vs : List Value) (H : Heap) (nx : Nat) : Option CRet :=
  cond (Nat.beq g 5) (List.rec (some (.ok (.bool true) H nx)) (fun _ _ _ => Option.none) vs) Option.none

theorem atBegun_ok {g : FuncId} {vs : List Value} {H : Heap} {nx : Nat} {c : CRet} (h : atBegun g vs H nx = some c) : SaysOk Tryz.prog g vs H nx c := by
  unfold atBegun at h
  cases hg : Nat.beq g 5 with
  | false => rw [hg] at h; cases h
  | true =>
    rw [hg] at h
    have := Nat.eq_of_beq_eq_true hg
    subst this
    cases vs with
    | nil =>
      have h' : some (CRet.ok (.bool true) H nx) = some c := h
      cases h'
      exact SaysOk.anywhere (H2 := heapOf fo.post) (nx2 := fo.nx') oko rfl H nx
    | cons v vs => cases h

noncomputable def hooked : AProg := ⟨Tryz.prog, fun g => getP all (at_ g), atBegun⟩
theorem hooked_ok : AOk Tryz.prog [75] hooked := ⟨rfl, insert, mixed, (fun g vs H nx c h => atBegun_ok h), fun g af h => table_ok all_ok g af h⟩
theorem hook_else (g : Nat) (hg : g ≠ 5) (vs : List Value) (H : Heap) (nx : Nat) : hooked.hook g vs H nx = Option.none := by
  show atBegun g vs H nx = Option.none
  unfold atBegun
  have : Nat.beq g 5 = false := by
    cases hb : Nat.beq g 5 with
    | false => rfl
    | true => exact absurd (Nat.eq_of_beq_eq_true hb) hg
  rw [this]; rfl

/-- the law, at whatever reads as a net and a list -/
theorem law {H : Heap} {nx : Nat} {n : Int} {ev lv : Value} {es : List (Int × Int)} {l : List Int} (he : SlE H nx 2 encP ev es) (hl : SlE H nx 1 encI lv l) : WF hooked 3 [.agg #[.int .i64 n, ev], lv] H nx fun v _ _ => v = .bool true :=
  law_spec (g := 3) (by kernel_rfl) hook_else (by decide) (fun H nx => rfl) Tryz.underlying4 (by kernel_rfl) (by kernel_rfl) (by kernel_rfl) (by kernel_rfl) (by kernel_rfl) (by kernel_rfl) (by kernel_rfl) (by kernel_rfl) (by kernel_rfl) (by kernel_rfl) (by kernel_rfl) he hl

/-! ### the arguments -/
section
variable {X : Type} {enc : TypeId × Value → X} {W : World} {base : Nat}
theorem cells3 : Tryz.prog.cellsOf 3 = 1 := by kernel_rfl
theorem cells52 : Tryz.prog.cellsOf 52 = 2 := by kernel_rfl
theorem under52 : Tryz.prog.underlying 52 = some (.array 2 3) := by kernel_rfl

theorem int_of {fuel : Nat} {c : List Value} {y : DataW X × List MemPlace} (h : DataW.trod enc Tryz.prog W 0 (fun _ => true) true fuel 3 c = some y) : ∃ a, c = encI a :=
  let ⟨n, h1, _⟩ := DataW.trod_int Tryz.underlying3 h
  ⟨n, h1⟩
theorem pair_of {fuel : Nat} {c : List Value} {y : DataW X × List MemPlace} (h : DataW.trod enc Tryz.prog W 0 (fun _ => true) true fuel 52 c = some y) : ∃ a, c = encP a := by
  obtain ⟨xs, m, _, _, hl, hx, hi⟩ := DataW.trod_array under52 h
  rw [cells52] at hl
  rw [cells3] at hi
  match c, hl with
  | [u, v], _ =>
    have h0 := hi 0 (by omega)
    have h1 := hi 1 (by omega)
    rw [List.getElem?_eq_getElem (by omega)] at h0 h1
    obtain ⟨a, ha⟩ := int_of h0
    obtain ⟨b, hb⟩ := int_of h1
    simp [encI] at ha hb
    exact ⟨(a, b), by rw [ha, hb]; rfl⟩

theorem slice_ok {t e : TypeId} {v : Value} (ht : Tryz.prog.underlying t = some (.slice e)) (h : Cell.okWide Tryz.prog W .any base t v) : ∀ a len cap, v = .slice (some a) len cap → a.spot = Option.none ∧ ∃ row cells, W.shape? a.block = some (row, cells) := by
  rintro a len cap rfl
  unfold Cell.okWide at h
  rw [ht] at h
  have h' : Cell.ok Tryz.prog W .any base t (.slice (some a) len cap) := h
  unfold Cell.ok at h'
  rw [ht] at h'
  obtain ⟨_, _, _, h2, row, cells, h3, _⟩ := h'
  exact ⟨h2, row, cells, h3⟩

theorem args_in {v0 v1 : Value} {d0 d1 : DataW X} {p0 p1 : List MemPlace} (hv0 : Value.okWide Tryz.prog W .any base 24 v0) (hv1 : Value.okWide Tryz.prog W .any base 25 v1) (h0 : DataW.Trod enc Tryz.prog W 0 (fun _ => true) true 24 v0 d0 p0) (h1 : DataW.Trod enc Tryz.prog W 0 (fun _ => true) true 25 v1 d1 p1) :
    ∃ ρ H nx n ev lv, ∃ es : List (Int × Int), ∃ l : List Int, Ro ρ H nx W.heap ∧ VRs ρ [.agg #[.int .i64 n, ev], lv] [v0, v1] ∧ SlE H nx 2 encP ev es ∧ SlE H nx 1 encI lv l := by
  unfold Value.okWide at hv0 hv1
  rw [Tryz.underlying24] at hv0
  rw [Tryz.underlying25] at hv1
  obtain ⟨cs, rfl, hsz, ts, hts, _, hcs⟩ := hv0
  have hts' : ts = [3, 22] := by
    have : Tryz.prog.cellTypes Tryz.prog.depth 24 = some [3, 22] := by kernel_rfl
    rw [this] at hts; exact (Option.some.inj hts).symm
  subst hts'
  have hsz2 : cs.size = 2 := by rw [hsz]; kernel_rfl
  obtain ⟨f0, hf0⟩ := h0
  obtain ⟨f1, hf1⟩ := h1
  obtain ⟨xs, m, _, _, _, hxl, hfs⟩ := DataW.trod_struct Tryz.underlying24 hf0
  have q0 := hfs 0 _ rfl
  have q1 := hfs 1 _ rfl
  have hxl2 : xs.length = 2 := hxl
  rw [List.getElem?_eq_getElem (by omega)] at q0 q1
  obtain ⟨cl⟩ := cs
  match cl, hsz2 with
  | [c0, c1], _ =>
    have hc22 : Tryz.prog.cellsOf 22 = 1 := by kernel_rfl
    have q0' : DataW.trod enc Tryz.prog W 0 (fun _ => true) true m 3 (List.take (Tryz.prog.cellsOf 3) [c0, c1]) = some xs[0] := q0
    have q1' : DataW.trod enc Tryz.prog W 0 (fun _ => true) true m 22 (List.take (Tryz.prog.cellsOf 22) (List.drop (0 + Tryz.prog.cellsOf 3) [c0, c1])) = some xs[1] := q1
    rw [cells3] at q0' q1'
    rw [hc22] at q1'
    have q1 : DataW.trod enc Tryz.prog W 0 (fun _ => true) true m 22 [c1] = some xs[1] := q1'
    have q0 : DataW.trod enc Tryz.prog W 0 (fun _ => true) true m 3 [c0] = some xs[0] := q0'
    clear q0' q1'
    obtain ⟨n, hn⟩ := int_of q0
    simp [encI] at hn
    subst hn
    have okc : ∀ a len cap, c1 = .slice (some a) len cap → a.spot = Option.none ∧ ∃ row cells, W.shape? a.block = some (row, cells) := by
      obtain ⟨u, h3, h4⟩ := hcs 1 c1 rfl
      obtain rfl : u = 22 := by simpa using h3.symm
      exact slice_ok Tryz.underlying22 h4
    obtain ⟨ρ1, H1, ev, es, e1, hro1, _, hve, hse⟩ := take_slice (encα := encP) (z := 2) Tryz.underlying22 cells52 (by omega) (fun _ => rfl) (fun _ => rfl) (fun _ _ _ h => pair_of h) okc q1 (Ro.empty W.heap)
    have okl := slice_ok Tryz.underlying25 hv1
    have hf1' : DataW.trod enc Tryz.prog W 0 (fun _ => true) true f1 25 [v1] = some (d1, p1) := by
      have : v1.cells.toList = [v1] := by
        cases v1 <;> first | rfl | (unfold Cell.okWide Cell.ok at hv1; simp [Tryz.underlying25] at hv1)
      rw [this] at hf1; exact hf1
    obtain ⟨ρ2, H2, lv, l, e2, hro2, hs2, hvl, hsl⟩ := take_slice (encα := encI) (z := 1) Tryz.underlying25 cells3 (by omega) (fun _ => rfl) (fun _ => rfl) (fun _ _ _ h => int_of h) okl hf1' hro1
    exact ⟨ρ2, H2, _, n, ev, lv, es, l, hro2, .cons (.agg (.cons (.sc rfl) (.cons (hve.mono e2) .nil))) (.cons hvl .nil), (hse.same hs2).up (Nat.le_succ _), hsl⟩
end

theorem walk {X : Type} {enc : TypeId × Value → X} {W : World} {base : Nat} {v0 v1 : Value} {d0 d1 : DataW X} {p0 p1 : List MemPlace} (hv0 : Value.okWide Tryz.prog W .any base 24 v0) (hv1 : Value.okWide Tryz.prog W .any base 25 v1) (h0 : DataW.Trod enc Tryz.prog W 0 (fun _ => true) true 24 v0 d0 p0) (h1 : DataW.Trod enc Tryz.prog W 0 (fun _ => true) true 25 v1 d1 p1) :
    Calls Tryz.prog 3 #[v0, v1] W fun e w' => e = .returned (.bool true) ∧ Kept W w' := by
  obtain ⟨ρ, H, nx, n, ev, lv, es, l, hro, hvs, he, hl⟩ := args_in hv0 hv1 h0 h1
  obtain ⟨m, v, H', nx', hrun, rfl⟩ := (law (n := n) he hl).out
  refine (((run_ok hooked_ok m).1 3 _ H nx _ hrun).2 ρ [v0, v1] W hvs hro.hr).mono fun e w' hr => ?_
  obtain ⟨u, ρ', g1, g2, g3⟩ := hr
  exact ⟨by rw [g1, g2.scalar_eq rfl], kept_of hro.ro g3.stp⟩

theorem own : ownKnob Tryz.prog.godebug = Option.none := by kernel_rfl
theorem laid : laidOutB Tryz.prog = true := by kernel_rfl

theorem post_of_kept {H : Type} {enc : TypeId × Value → H} {P : Program} {f : Func} {s : ChangeSpec} {apart fresh handsOn : Bool} {W W' : World} {args : Array Value} {v : Value} {ds gs : List (DataW H)} {before pa pv : List MemPlace}
    (hW : DataW.Whole enc P f.params.toList s.vars apart W args.toList ds gs before)
    (hres : ∀ (b : Nat) (sp : Nat → Bool) (hd : Bool), DataW.TrodAll enc P W' b sp hd f.resultTypes.toList (v.resultList f.resultTypes.size) (s.fn H (ds ++ gs)).results [])
    (hargs : ∀ sp : Nat → Bool, (∀ p ∈ before, sp p.block = true) → DataW.TrodAll enc P W' 0 sp true f.params.toList args.toList (s.fn H (ds ++ gs)).args pa)
    (hvars : ∀ sp : Nat → Bool, (∀ p ∈ before, sp p.block = true) → DataW.TrodVars enc P W' sp s.vars (s.fn H (ds ++ gs)).vars pv)
    (hk : Kept W W') : s.post enc P f apart fresh handsOn false W args v W' := by
  have hold : ∀ p ∈ before, (fun b => decide (b < W.heap.size)) p.block = true := fun p hp => by simpa using hW.lt p hp
  exact ⟨ds, gs, before, [], pa, pv, hW, hres _ _ _, hargs _ hold, hvars _ hold, hk.but _, fun h => by cases h⟩

/-- what is kept reads the same -/
theorem same_at {W W' : World} {p : MemPlace} (h : Kept W W') (hp : p.block < W.heap.size) : W.sameAt W' p := by
  cases p with
  | cell b o => exact World.cell?_of_block (w := W) (h.2.2 b hp)
  | map b => exact h.2.2 b hp

/-! ### the row -/
theorem lifted (os : Os) (started : os.Started) (H : Type) (enc : TypeId × Value → H) :
    ReturnsInHanded {} Tryz.checked os 3 .any (Rows.orderIsSpec.pre6 enc Tryz.prog Tryz.f3 Rows.orderIsRow.domain false) (Rows.orderIsSpec.post enc Tryz.prog Tryz.f3 false true false false) := by
  refine returnsInHanded_of_change (C := Tryz.checked) own started (by kernel_rfl) Tryz.func3
    (ChangeSpec.witness6 (enc := enc) (C := Tryz.checked) false ⟨#[], #[.agg #[.int .i64 0, .slice Option.none 0 0], .slice Option.none 0 0], []⟩ 8 (by kernel_rfl) (by kernel_rfl) (by kernel_rfl) (by kernel_rfl)) ?_
  intro W base args ds gs before hval0 hW hcnd _
  have hval : ∀ (j : Nat) t v, Tryz.f3.params[j]? = some t → args[j]? = some v → Value.okWide Tryz.prog W .any base t v := hval0
  have hW' := hW
  have hlt := fun p hp => hW.lt p hp
  obtain ⟨p, q, hA0, hV, rfl, hfz, hnd⟩ := hW
  have hA : DataW.TrodAll enc Tryz.prog W 0 (fun _ => true) true Tryz.f3.params.toList args.toList ds p := hA0
  rw [Tryz.params3] at hA hval
  obtain ⟨v0, vs0, d0, ds0, p0, q0, hargs, rfl, rfl, h0, r0⟩ := trodAll_cons hA
  obtain ⟨v1, vs1, d1, ds1, p1, q1, rfl, rfl, rfl, h1, r1⟩ := trodAll_cons r0
  obtain ⟨rfl, rfl, rfl⟩ := trodAll_nil r1
  obtain rfl : args = #[v0, v1] := by cases args; simp_all
  obtain ⟨rfl, rfl⟩ := trodVars_none hV
  have k0 := hval 0 24 v0 rfl rfl
  have k1 := hval 1 25 v1 rfl rfl
  clear hA0 hval0
  simp only [List.append_nil] at hW' hlt
  refine (walk k0 k1 h0 h1).mono fun e W' ⟨he, hg⟩ => ?_
  subst he
  refine ⟨_, rfl, post_of_kept (pa := p0 ++ (p1 ++ [])) (pv := []) hW' (fun _ _ _ => (trodAll_cons_mk (shut_bool Tryz.underlying4 _) trodAll_mk0)) (fun sp hsp => ?_) (fun _ _ => rfl) hg⟩
  rw [Tryz.params3]
  have key : ∀ x ∈ p0 ++ p1, W.sameAt W' x := fun x hx => same_at hg (hlt x (by simpa using hx))
  refine trodAll_cons_mk (WideElems.Trod_stays laid (by kernel_rfl) (of_decide_eq_true (by kernel_rfl)) h0 (fun x hx => key x (List.mem_append_left _ hx)) (fun x hx => hsp x (by simp [hx])))
    (trodAll_cons_mk (WideElems.Trod_stays laid (by kernel_rfl) (of_decide_eq_true (by kernel_rfl)) h1 (fun x hx => key x (List.mem_append_right _ hx)) (fun x hx => hsp x (by simp [hx]))) trodAll_mk0)

theorem over : Rows.orderIsRow.holds Tryz.pinned (OpenSpec.ofChange Rows.orderIsSpec) :=
  OpenClaim.holds_of_wide 3 Tryz.f3 rfl rfl rfl rfl rfl rfl rfl ⟨rfl, rfl, rfl, rfl, rfl⟩ rfl rfl rfl rfl rfl (by kernel_rfl) Tryz.func3 (by kernel_rfl)
    (of_decide_eq_true (by kernel_rfl)) (by unfold Func.isWrapper; first | (rw [if_pos (by decide +kernel)]; kernel_rfl) | (rw [if_neg (by decide +kernel)]; exact ⟨rfl, rfl⟩))
    (fun os started H enc _ => lifted os started H enc)

theorem proved : Rows.OrderIsSaid :=
  over
#print axioms proved
end Go.Proofs.YtkojdclaojbpiaaGreat.orderIs
