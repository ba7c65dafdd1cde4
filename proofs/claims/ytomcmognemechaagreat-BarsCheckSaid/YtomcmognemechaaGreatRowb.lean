/-
  The flaws of any view: 'tracerylaw24.BarsCheck' gives true for every net and every view, and they read as they did.
  'begun' is computed by an interpreter of the model's code that is proved right for every draw; all else is shown for every input by a program logic over that interpreter.
-/
import Derived.Test.YtomcmognemechaaGreatRows
import Derived.WalkKit
import Derived.ProofKit
import Derived.OpenShut
import Derived.SizedLaws
import Derived.Test.YtomcmognemechaaGreatEf
import Derived.Test.YtomcmognemechaaGreatWr
import Derived.Test.YtomcmognemechaaGreatBo
namespace Go.Proofs.YtomcmognemechaaGreat.barsCheck
open Go.Eng
open Go.ChangeShapes Go.WideShapes Go.ChangeAt Go.RowKit
set_option linter.unusedVariables false
set_option maxRecDepth 100000

/-- what was there is what it was -/
def Kept (w w' : World) : Prop := w'.os = w.os ∧ w'.output = w.output ∧ ∀ i : Nat, i < w.heap.size → w'.heap[i]? = w.heap[i]?

theorem Kept.but {w w' : World} (h : Kept w w') (may : MemPlace → Prop) : w.keptBut w' may := by
  refine ⟨h.1, h.2.1, fun i hi => ?_⟩
  rw [h.2.2 i hi]
  cases w.heap[i]? with
  | none => rfl
  | some o =>
    cases o <;> first | rfl | exact ⟨rfl, rfl, rfl, fun _ _ => rfl⟩ | exact .inr ⟨rfl, rfl⟩

theorem kept_of {ρ ρ' : Rho} {H H' : Heap} {w w' : World} (hro : ∀ b k, getP H (at_ b) = some k → k.mine = false) (h : Stp ρ H w ρ' H' w') : Kept w w' :=
  ⟨h.os, h.output, fun i hi => h.frame i hi (fun ⟨b, x, s, hb, hm, _⟩ => by rw [hro b x hb] at hm; cases hm)⟩

noncomputable def atBegun (g : FuncId) (vs : List Value) (H : Heap) (nx : Nat) : Option CRet :=
  cond (Nat.beq g 4) (List.rec (some (.ok (.bool true) H nx)) (fun _ _ _ => Option.none) vs) Option.none

theorem atBegun_ok {g : FuncId} {vs : List Value} {H : Heap} {nx : Nat} {c : CRet} (h : atBegun g vs H nx = some c) : SaysOk Tryz.prog g vs H nx c := by
  unfold atBegun at h
  cases hg : Nat.beq g 4 with
  | false => rw [hg] at h; cases h
  | true =>
    rw [hg] at h
    have := Nat.eq_of_beq_eq_true hg
    subst this
    cases vs with
    | nil =>
      have h' : some (CRet.ok (.bool true) H nx) = some c := h
      cases h'
      exact SaysOk.anywhere (H2 := heapOf fo.post) (nx2 := fo.nx') oko rfl H nx
    | cons v vs => cases h

noncomputable def hooked : AProg := ⟨Tryz.prog, fun g => getP all (at_ g), atBegun⟩
theorem hooked_ok : AOk Tryz.prog [84] hooked := ⟨rfl, insert, mixed, (fun g vs H nx c h => atBegun_ok h), fun g af h => table_ok all_ok g af h⟩
theorem hook_else (g : Nat) (hg : g ≠ 4) (vs : List Value) (H : Heap) (nx : Nat) : hooked.hook g vs H nx = Option.none := by
  show atBegun g vs H nx = Option.none
  unfold atBegun
  have : Nat.beq g 4 = false := by
    cases hb : Nat.beq g 4 with
    | false => rfl
    | true => exact absurd (Nat.eq_of_beq_eq_true hb) hg
  rw [this]; rfl

theorem flaw_eq (a0 a1 a2 b0 b1 b2 : Int) (d : Nat) : quiet Tryz.prog (Op.equalIn (d + 1 + 1) 43 (.agg #[.int .i64 a0, .int .i64 a1, .int .i64 a2]) (.agg #[.int .i64 b0, .int .i64 b1, .int .i64 b2])) = some (a0 == b0 && (a1 == b1 && a2 == b2)) :=
  eqlIn_ints3 Tryz.underlying43 (by kernel_rfl) (by decide) (by decide) (by decide) rfl rfl rfl Tryz.underlying3 Tryz.underlying3 Tryz.underlying3 (by kernel_rfl) (by kernel_rfl) (by kernel_rfl) d

/-- the law, at whatever reads as a net and a view -/
theorem law {H : Heap} {nx : Nat} {n : Int} {ev yv lv rv xv : Value} {es : List (Int × Int)} {Y L R X : List Int} (hbig : Y.length + L.length + R.length + X.length ≤ 4611686018427387904) (he : SlE H nx 2 encP ev es) (hy : SlE H nx 1 encI yv Y) (hl : SlE H nx 1 encI lv L) (hr : SlE H nx 1 encI rv R) (hx : SlE H nx 1 encI xv X) :
    WF hooked 3 [.agg #[.int .i64 n, ev], .agg #[yv, lv, rv, xv]] H nx fun v _ _ => v = .bool true :=
  blaw_spec (g := 3) (by kernel_rfl) hook_else (by decide) (fun H nx => rfl) (by kernel_rfl) flaw_eq (by kernel_rfl) (by kernel_rfl) (by kernel_rfl) (by kernel_rfl) (by kernel_rfl) (by kernel_rfl) (by kernel_rfl) (by kernel_rfl) (by kernel_rfl) (by kernel_rfl) (by kernel_rfl) (by kernel_rfl) (by kernel_rfl) hbig he hy hl hr hx

/-! ### the arguments -/
section
variable {X : Type} {enc : TypeId × Value → X} {W : World} {base : Nat}
theorem cells3 : Tryz.prog.cellsOf 3 = 1 := by kernel_rfl
theorem cells44 : Tryz.prog.cellsOf 44 = 2 := by kernel_rfl
theorem cells22 : Tryz.prog.cellsOf 22 = 1 := by kernel_rfl
theorem cells25 : Tryz.prog.cellsOf 25 = 1 := by kernel_rfl
theorem under44 : Tryz.prog.underlying 44 = some (.array 2 3) := by kernel_rfl

theorem int_of {fuel : Nat} {c : List Value} {y : DataW X × List MemPlace} (h : DataW.trod enc Tryz.prog W 0 (fun _ => true) true fuel 3 c = some y) : ∃ a, c = encI a :=
  let ⟨n, h1, _⟩ := DataW.trod_int Tryz.underlying3 h
  ⟨n, h1⟩
theorem pair_of {fuel : Nat} {c : List Value} {y : DataW X × List MemPlace} (h : DataW.trod enc Tryz.prog W 0 (fun _ => true) true fuel 44 c = some y) : ∃ a, c = encP a := by
  obtain ⟨xs, m, _, _, hl, hx, hi⟩ := DataW.trod_array under44 h
  rw [cells44] at hl
  rw [cells3] at hi
  match c, hl with
  | [u, v], _ =>
    have h0 := hi 0 (by omega)
    have h1 := hi 1 (by omega)
    rw [List.getElem?_eq_getElem (by omega)] at h0 h1
    obtain ⟨a, ha⟩ := int_of h0
    obtain ⟨b, hb⟩ := int_of h1
    simp [encI] at ha hb
    exact ⟨(a, b), by rw [ha, hb]; rfl⟩

theorem slice_ok {t e : TypeId} {v : Value} (ht : Tryz.prog.underlying t = some (.slice e)) (h : Cell.okWide Tryz.prog W .any base t v) : ∀ a len cap, v = .slice (some a) len cap → a.spot = Option.none ∧ ∃ row cells, W.shape? a.block = some (row, cells) := by
  rintro a len cap rfl
  unfold Cell.okWide at h
  rw [ht] at h
  have h' : Cell.ok Tryz.prog W .any base t (.slice (some a) len cap) := h
  unfold Cell.ok at h'
  rw [ht] at h'
  obtain ⟨_, _, _, h2, row, cells, h3, _⟩ := h'
  exact ⟨h2, row, cells, h3⟩

/-- what a slice reads as is as long as it is -/
theorem slice_len {α : Type} {encα : α → List Value} {ρ : Rho} {H : Heap} {nx z fuel : Nat} {t e : TypeId} {v av : Value} {xs : List α} {x : DataW X × List MemPlace} (ht : Tryz.prog.underlying t = some (.slice e)) (hb : Tryz.prog.bytesOf e = 8)
    (hd : DataW.trod enc Tryz.prog W 0 (fun _ => true) true fuel t [v] = some x) (hv : VR ρ av v) (hs : SlE H nx z encα av xs) (hw : (x.1.weights Tryz.prog t).all (· ≤ reachBytes) = true) : xs.length ≤ 140737488355328 := by
  obtain ⟨b, c, rfl⟩ := hs.form
  rcases Deep.open_slice ht hd with ⟨h, _⟩ | ⟨a, len, cap, m, n, D, Pl, h, _, hl, hm, hmm, hx, hel⟩
  · obtain rfl : v = .slice Option.none 0 0 := by simpa using h
    have : xs.length = 0 := by
      generalize hq : xs.length = q at hv
      cases hv with
      | sc h => simp [scalar] at h
      | snil => rfl
    omega
  · obtain rfl : v = .slice (some a) len cap := by simpa using h
    have hlen : xs.length = len := by
      generalize hq : xs.length = q at hv
      cases hv with
      | sc h => rfl
      | sl => rfl
    subst hx
    simp only [DataW.weights, ht, List.all_cons, List.length_map, List.length_range, hb, Bool.and_eq_true, decide_eq_true_eq] at hw
    have := hw.1
    have hr := reachBytes_lt
    omega

theorem two_of {l : List Value} (h : l.length = 2) : ∃ a b, l = [a, b] := by
  match l, h with
  | [a, b], _ => exact ⟨a, b, rfl⟩
theorem four_of {l : List Value} (h : l.length = 4) : ∃ a b c d, l = [a, b, c, d] := by
  match l, h with
  | [a, b, c, d], _ => exact ⟨a, b, c, d, rfl⟩

theorem args_in {v0 v1 : Value} {d0 d1 : DataW X} {p0 p1 : List MemPlace} (hv0 : Value.okWide Tryz.prog W .any base 24 v0) (hv1 : Value.okWide Tryz.prog W .any base 27 v1) (h0 : DataW.Trod enc Tryz.prog W 0 (fun _ => true) true 24 v0 d0 p0) (h1 : DataW.Trod enc Tryz.prog W 0 (fun _ => true) true 27 v1 d1 p1)
    (hsz : (DataW.weightsEach Tryz.prog [24, 27] [d0, d1]).all (· ≤ reachBytes) = true) :
    ∃ ρ H nx n ev yv lv rv xv, ∃ es : List (Int × Int), ∃ Y L R U : List Int, Y.length + L.length + R.length + U.length ≤ 4611686018427387904 ∧ Ro ρ H nx W.heap ∧ VRs ρ [.agg #[.int .i64 n, ev], .agg #[yv, lv, rv, xv]] [v0, v1] ∧ SlE H nx 2 encP ev es ∧ SlE H nx 1 encI yv Y ∧ SlE H nx 1 encI lv L ∧ SlE H nx 1 encI rv R ∧ SlE H nx 1 encI xv U := by
  unfold Value.okWide at hv0 hv1
  rw [Tryz.underlying24] at hv0
  rw [Tryz.underlying27] at hv1
  obtain ⟨cs, rfl, hsz0, ts, hts, _, hcs⟩ := hv0
  obtain ⟨ds, rfl, hsz1, us, hus, _, hds⟩ := hv1
  have hts' : ts = [3, 22] := by
    have : Tryz.prog.cellTypes Tryz.prog.depth 24 = some [3, 22] := by kernel_rfl
    rw [this] at hts; exact (Option.some.inj hts).symm
  have hus' : us = [25, 25, 25, 25] := by
    have : Tryz.prog.cellTypes Tryz.prog.depth 27 = some [25, 25, 25, 25] := by kernel_rfl
    rw [this] at hus; exact (Option.some.inj hus).symm
  subst hts' hus'
  have hsz2 : cs.size = 2 := by rw [hsz0]; kernel_rfl
  have hsz4 : ds.size = 4 := by rw [hsz1]; kernel_rfl
  obtain ⟨f0, hf0⟩ := h0
  obtain ⟨f1, hf1⟩ := h1
  obtain ⟨xs, m, _, _, _, hxl, hfs⟩ := DataW.trod_struct Tryz.underlying24 hf0
  obtain ⟨ys, k, _, hd1, _, hyl, hgs⟩ := DataW.trod_struct Tryz.underlying27 hf1
  have q0 := hfs 0 _ rfl
  have q1 := hfs 1 _ rfl
  have r0 := hgs 0 _ rfl
  have r1 := hgs 1 _ rfl
  have r2 := hgs 2 _ rfl
  have r3 := hgs 3 _ rfl
  have hxl2 : xs.length = 2 := hxl
  have hyl4 : ys.length = 4 := hyl
  rw [List.getElem?_eq_getElem (by omega)] at q0 q1 r0 r1 r2 r3
  obtain ⟨cl⟩ := cs
  obtain ⟨dl⟩ := ds
  obtain rfl : d1 = .agg (ys.map (·.1)) := congrArg Prod.fst hd1
  have hwt : ∀ j (hj : j < 4), ((ys[j]'(by omega)).1.weights Tryz.prog 25).all (· ≤ reachBytes) = true := by
    intro j hj
    refine List.all_eq_true.2 fun w hw => List.all_eq_true.1 hsz w ?_
    refine DataW.weights_mem_each (j := 1) (t := 27) rfl rfl w ?_
    simp only [DataW.weights, Tryz.underlying27]
    refine DataW.weights_mem_each (j := j) (t := 25) (d := (ys[j]'(by omega)).1) ?_ (by rw [List.getElem?_map, List.getElem?_eq_getElem (by omega)]; rfl) w hw
    match j, hj with
    | 0, _ => rfl
    | 1, _ => rfl
    | 2, _ => rfl
    | 3, _ => rfl
  obtain ⟨c0, c1, rfl⟩ := two_of (l := cl) hsz2
  obtain ⟨e0, e1, e2, e3, rfl⟩ := four_of (l := dl) hsz4
  have q0' : DataW.trod enc Tryz.prog W 0 (fun _ => true) true m 3 (List.take (Tryz.prog.cellsOf 3) [c0, c1]) = some xs[0] := q0
  have q1' : DataW.trod enc Tryz.prog W 0 (fun _ => true) true m 22 (List.take (Tryz.prog.cellsOf 22) (List.drop 1 [c0, c1])) = some xs[1] := q1
  rw [cells3] at q0'
  rw [cells22] at q1'
  have q1 : DataW.trod enc Tryz.prog W 0 (fun _ => true) true m 22 [c1] = some xs[1] := q1'
  have q0 : DataW.trod enc Tryz.prog W 0 (fun _ => true) true m 3 [c0] = some xs[0] := q0'
  have r0' : DataW.trod enc Tryz.prog W 0 (fun _ => true) true k 25 (List.take (Tryz.prog.cellsOf 25) [e0, e1, e2, e3]) = some ys[0] := r0
  have r1' : DataW.trod enc Tryz.prog W 0 (fun _ => true) true k 25 (List.take (Tryz.prog.cellsOf 25) (List.drop 1 [e0, e1, e2, e3])) = some ys[1] := r1
  have r2' : DataW.trod enc Tryz.prog W 0 (fun _ => true) true k 25 (List.take (Tryz.prog.cellsOf 25) (List.drop 2 [e0, e1, e2, e3])) = some ys[2] := r2
  have r3' : DataW.trod enc Tryz.prog W 0 (fun _ => true) true k 25 (List.take (Tryz.prog.cellsOf 25) (List.drop 3 [e0, e1, e2, e3])) = some ys[3] := r3
  rw [cells25] at r0' r1' r2' r3'
  have r0 : DataW.trod enc Tryz.prog W 0 (fun _ => true) true k 25 [e0] = some ys[0] := r0'
  have r1 : DataW.trod enc Tryz.prog W 0 (fun _ => true) true k 25 [e1] = some ys[1] := r1'
  have r2 : DataW.trod enc Tryz.prog W 0 (fun _ => true) true k 25 [e2] = some ys[2] := r2'
  have r3 : DataW.trod enc Tryz.prog W 0 (fun _ => true) true k 25 [e3] = some ys[3] := r3'
  clear q0' q1' r0' r1' r2' r3'
  obtain ⟨n, hn⟩ := int_of q0
  simp [encI] at hn
  subst hn
  have okc : ∀ a len cap, c1 = .slice (some a) len cap → a.spot = Option.none ∧ ∃ row cells, W.shape? a.block = some (row, cells) := by
    obtain ⟨u, h3, h4⟩ := hcs 1 c1 rfl
    obtain rfl : u = 22 := by simpa using h3.symm
    exact slice_ok Tryz.underlying22 h4
  have oke : ∀ (j : Nat) (e : Value), (#[e0, e1, e2, e3] : Array Value)[j]? = some e → ∀ a len cap, e = .slice (some a) len cap → a.spot = Option.none ∧ ∃ row cells, W.shape? a.block = some (row, cells) := by
    intro j e hj
    obtain ⟨u, h3, h4⟩ := hds j e hj
    have hj4 : j % 4 < 4 := Nat.mod_lt _ (by omega)
    obtain rfl : u = 25 := by
      have h3' : ([25, 25, 25, 25] : List TypeId)[j % 4]? = some u := h3
      generalize j % 4 = i at hj4 h3'
      match i, hj4, h3' with
      | 0, _, h => simpa using h.symm
      | 1, _, h => simpa using h.symm
      | 2, _, h => simpa using h.symm
      | 3, _, h => simpa using h.symm
    exact slice_ok Tryz.underlying25 h4
  obtain ⟨ρ1, H1, ev, es, e1', hro1, _, hve, hse⟩ := take_slice (encα := encP) (z := 2) Tryz.underlying22 cells44 (by omega) (fun _ => rfl) (fun _ => rfl) (fun _ _ _ h => pair_of h) okc q1 (Ro.empty W.heap)
  obtain ⟨ρ2, H2, yv, Y, e2', hro2, hs2, hvy, hsy⟩ := take_slice (encα := encI) (z := 1) Tryz.underlying25 cells3 (by omega) (fun _ => rfl) (fun _ => rfl) (fun _ _ _ h => int_of h) (oke 0 e0 rfl) r0 hro1
  obtain ⟨ρ3, H3, lv, L, e3', hro3, hs3, hvl, hsl⟩ := take_slice (encα := encI) (z := 1) Tryz.underlying25 cells3 (by omega) (fun _ => rfl) (fun _ => rfl) (fun _ _ _ h => int_of h) (oke 1 e1 rfl) r1 hro2
  obtain ⟨ρ4, H4, rv, R, e4', hro4, hs4, hvr, hsr⟩ := take_slice (encα := encI) (z := 1) Tryz.underlying25 cells3 (by omega) (fun _ => rfl) (fun _ => rfl) (fun _ _ _ h => int_of h) (oke 2 e2 rfl) r2 hro3
  obtain ⟨ρ5, H5, xv, U, e5', hro5, hs5, hvx, hsx⟩ := take_slice (encα := encI) (z := 1) Tryz.underlying25 cells3 (by omega) (fun _ => rfl) (fun _ => rfl) (fun _ _ _ h => int_of h) (oke 3 e3 rfl) r3 hro4
  have b8 : Tryz.prog.bytesOf 3 = 8 := by kernel_rfl
  have l0 := slice_len Tryz.underlying25 b8 r0 hvy hsy (hwt 0 (by omega))
  have l1 := slice_len Tryz.underlying25 b8 r1 hvl hsl (hwt 1 (by omega))
  have l2 := slice_len Tryz.underlying25 b8 r2 hvr hsr (hwt 2 (by omega))
  have l3 := slice_len Tryz.underlying25 b8 r3 hvx hsx (hwt 3 (by omega))
  refine ⟨ρ5, H5, _, n, ev, yv, lv, rv, xv, es, Y, L, R, U, by omega, hro5, .cons (.agg (.cons (.sc rfl) (.cons ((((hve.mono e2').mono e3').mono e4').mono e5') .nil))) (.cons (.agg (.cons (((hvy.mono e3').mono e4').mono e5') (.cons ((hvl.mono e4').mono e5') (.cons (hvr.mono e5') (.cons hvx .nil))))) .nil),
    ?_, ?_, ?_, ?_, hsx⟩
  · exact ((((((((hse.same hs2).up (Nat.le_succ _)).same hs3).up (Nat.le_succ _)).same hs4).up (Nat.le_succ _)).same hs5).up (Nat.le_succ _))
  · exact ((((((hsy.same hs3).up (Nat.le_succ _)).same hs4).up (Nat.le_succ _)).same hs5).up (Nat.le_succ _))
  · exact ((((hsl.same hs4).up (Nat.le_succ _)).same hs5).up (Nat.le_succ _))
  · exact ((hsr.same hs5).up (Nat.le_succ _))
end

theorem walk {X : Type} {enc : TypeId × Value → X} {W : World} {base : Nat} {v0 v1 : Value} {d0 d1 : DataW X} {p0 p1 : List MemPlace} (hv0 : Value.okWide Tryz.prog W .any base 24 v0) (hv1 : Value.okWide Tryz.prog W .any base 27 v1) (h0 : DataW.Trod enc Tryz.prog W 0 (fun _ => true) true 24 v0 d0 p0) (h1 : DataW.Trod enc Tryz.prog W 0 (fun _ => true) true 27 v1 d1 p1)
    (hsz : (DataW.weightsEach Tryz.prog [24, 27] [d0, d1]).all (· ≤ reachBytes) = true) :
    Calls Tryz.prog 3 #[v0, v1] W fun e w' => e = .returned (.bool true) ∧ Kept W w' := by
  obtain ⟨ρ, H, nx, n, ev, yv, lv, rv, xv, es, Y, L, R, U, hbig, hro, hvs, he, hy, hl, hr, hx⟩ := args_in hv0 hv1 h0 h1 hsz
  obtain ⟨m, v, H', nx', hrun, rfl⟩ := (law (n := n) hbig he hy hl hr hx).out
  refine (((run_ok hooked_ok m).1 3 _ H nx _ hrun).2 ρ [v0, v1] W hvs hro.hr).mono fun e w' hr => ?_
  obtain ⟨u, ρ', g1, g2, g3⟩ := hr
  exact ⟨by rw [g1, g2.scalar_eq rfl], kept_of hro.ro g3.stp⟩

theorem own : ownKnob Tryz.prog.godebug = Option.none := by kernel_rfl
theorem laid : laidOutB Tryz.prog = true := by kernel_rfl

theorem post_of_kept {H : Type} {enc : TypeId × Value → H} {P : Program} {f : Func} {s : ChangeSpec} {apart fresh handsOn : Bool} {W W' : World} {args : Array Value} {v : Value} {ds gs : List (DataW H)} {before pa pv : List MemPlace}
    (hW : DataW.Whole enc P f.params.toList s.vars apart W args.toList ds gs before)
    (hres : ∀ (b : Nat) (sp : Nat → Bool) (hd : Bool), DataW.TrodAll enc P W' b sp hd f.resultTypes.toList (v.resultList f.resultTypes.size) (s.fn H (ds ++ gs)).results [])
    (hargs : ∀ sp : Nat → Bool, (∀ p ∈ before, sp p.block = true) → DataW.TrodAll enc P W' 0 sp true f.params.toList args.toList (s.fn H (ds ++ gs)).args pa)
    (hvars : ∀ sp : Nat → Bool, (∀ p ∈ before, sp p.block = true) → DataW.TrodVars enc P W' sp s.vars (s.fn H (ds ++ gs)).vars pv)
    (hk : Kept W W') : s.post enc P f apart fresh handsOn false W args v W' := by
  have hold : ∀ p ∈ before, (fun b => decide (b < W.heap.size)) p.block = true := fun p hp => by simpa using hW.lt p hp
  exact ⟨ds, gs, before, [], pa, pv, hW, hres _ _ _, hargs _ hold, hvars _ hold, hk.but _, fun h => by cases h⟩

/-- what is kept reads the same -/
theorem same_at {W W' : World} {p : MemPlace} (h : Kept W W') (hp : p.block < W.heap.size) : W.sameAt W' p := by
  cases p with
  | cell b o => exact World.cell?_of_block (w := W) (h.2.2 b hp)
  | map b => exact h.2.2 b hp

/-! ### the row -/
theorem lifted (os : Os) (started : os.Started) (H : Type) (enc : TypeId × Value → H) :
    ReturnsInHanded {} Tryz.checked os 3 .any (Rows.barsCheckSpec.pre6 enc Tryz.prog Tryz.f3 Rows.barsCheckRow.domain false) (Rows.barsCheckSpec.post enc Tryz.prog Tryz.f3 false true false false) := by
  refine returnsInHanded_of_change_sized (C := Tryz.checked) own started (by kernel_rfl) Tryz.func3
    (ChangeSpec.witness6 (enc := enc) (C := Tryz.checked) false ⟨#[], #[.agg #[.int .i64 0, .slice Option.none 0 0], .agg #[.slice Option.none 0 0, .slice Option.none 0 0, .slice Option.none 0 0, .slice Option.none 0 0]], []⟩ 8 (by kernel_rfl) (by kernel_rfl) (by kernel_rfl) (by kernel_rfl)) ?_
  intro W base args ds gs before hval0 hW hcnd hsz0 _
  have hval : ∀ (j : Nat) t v, Tryz.f3.params[j]? = some t → args[j]? = some v → Value.okWide Tryz.prog W .any base t v := hval0
  have hW' := hW
  have hlt := fun p hp => hW.lt p hp
  obtain ⟨p, q, hA0, hV, rfl, hfz, hnd⟩ := hW
  have hA : DataW.TrodAll enc Tryz.prog W 0 (fun _ => true) true Tryz.f3.params.toList args.toList ds p := hA0
  have hsz : (DataW.weightsEach Tryz.prog (Tryz.f3.params.toList ++ []) (ds ++ gs)).all (· ≤ reachBytes) = true := hsz0
  rw [Tryz.params3] at hA hval hsz
  obtain ⟨v0, vs0, d0, ds0, p0, q0, hargs, rfl, rfl, h0, r0⟩ := trodAll_cons hA
  obtain ⟨v1, vs1, d1, ds1, p1, q1, rfl, rfl, rfl, h1, r1⟩ := trodAll_cons r0
  obtain ⟨rfl, rfl, rfl⟩ := trodAll_nil r1
  obtain rfl : args = #[v0, v1] := by cases args; simp_all
  obtain ⟨rfl, rfl⟩ := trodVars_none hV
  have k0 := hval 0 24 v0 rfl rfl
  have k1 := hval 1 27 v1 rfl rfl
  clear hA0 hval0
  simp only [List.append_nil] at hW' hlt hsz
  refine (walk k0 k1 h0 h1 hsz).mono fun e W' ⟨he, hg⟩ => ?_
  subst he
  refine ⟨_, rfl, post_of_kept (pa := p0 ++ (p1 ++ [])) (pv := []) hW' (fun _ _ _ => (trodAll_cons_mk (shut_bool Tryz.underlying4 _) trodAll_mk0)) (fun sp hsp => ?_) (fun _ _ => rfl) hg⟩
  rw [Tryz.params3]
  have key : ∀ x ∈ p0 ++ p1, W.sameAt W' x := fun x hx => same_at hg (hlt x (by simpa using hx))
  refine trodAll_cons_mk (WideElems.Trod_stays laid (by kernel_rfl) (of_decide_eq_true (by kernel_rfl)) h0 (fun x hx => key x (List.mem_append_left _ hx)) (fun x hx => hsp x (by simp [hx])))
    (trodAll_cons_mk (WideElems.Trod_stays laid (by kernel_rfl) (of_decide_eq_true (by kernel_rfl)) h1 (fun x hx => key x (List.mem_append_right _ hx)) (fun x hx => hsp x (by simp [hx]))) trodAll_mk0)

theorem over : Rows.barsCheckRow.holds Tryz.pinned (OpenSpec.ofChange Rows.barsCheckSpec) :=
  OpenClaim.holds_of_wide 3 Tryz.f3 rfl rfl rfl rfl rfl rfl rfl ⟨rfl, rfl, rfl, rfl, rfl⟩ rfl rfl rfl rfl rfl (by kernel_rfl) Tryz.func3 (by kernel_rfl)
    (of_decide_eq_true (by kernel_rfl)) (by unfold Func.isWrapper; first | (rw [if_pos (by decide +kernel)]; kernel_rfl) | (rw [if_neg (by decide +kernel)]; exact ⟨rfl, rfl⟩))
    (fun os started H enc _ => lifted os started H enc)

theorem proved : Rows.BarsCheckSaid :=
  over
#print axioms proved
end Go.Proofs.YtomcmognemechaaGreat.barsCheck
