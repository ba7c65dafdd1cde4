/-
  Shapes are taken or refused, and tasks told, as the document has it, of any net and rotation: 'tracerylaw26.OrthoAll' gives true for every net, rotation, shape and face whose reading is of bulk at most 1048576, and they read as they did.
  'begun' is computed by an interpreter of the model's code that is proved right for every draw; all else is shown for every input by a program logic over that interpreter.
-/
import Derived.Test.YtfejkbfafacdcaaGreatRows
import Derived.WalkKit
import Derived.ProofKit
import Derived.OpenShut
import Derived.SizedLaws
import Derived.JoinedCond
import Derived.Test.YtfejkbfafacdcaaGreatEe
import Derived.Test.YtfejkbfafacdcaaGreatWf
import Derived.Test.YtfejkbfafacdcaaGreatBo
namespace Go.Proofs.YtfejkbfafacdcaaGreat.orthoAll
open Go.Eng
open Go.ChangeShapes Go.WideShapes Go.ChangeAt Go.RowKit
set_option linter.unusedVariables false
set_option maxRecDepth 100000

/-- what was there is what it was -/
def Kept (w w' : World) : Prop := w'.os = w.os ∧ w'.output = w.output ∧ ∀ i : Nat, i < w.heap.size → w'.heap[i]? = w.heap[i]?

theorem Kept.qL {w w' : World} (h : Kept w w') (may : MemPlace → Prop) : w.keptBut w' may := by
  refine ⟨h.1, h.2.1, fun i hi => ?_⟩
  rw [h.2.2 i hi]
  cases w.heap[i]? with
  | none => rfl
  | some o =>
    cases o <;> first | rfl | exact ⟨rfl, rfl, rfl, fun _ _ => rfl⟩ | exact .inr ⟨rfl, rfl⟩

theorem L3 {ρ ρ' : bA} {H H' : Heap} {w w' : World} (j9 : ∀ b k, ao H (at_ b) = some k → k.ij = false) (h : Bp ρ H w ρ' H' w') : Kept w w' :=
  ⟨h.os, h.output, fun i hi => h.frame i hi (fun ⟨b, x, s, hb, hm, _⟩ => by rw [j9 b x hb] at hm; cases hm)⟩

theorem FV : gD Tryz.prog 16 := ⟨Tryz.f16, Tryz.func16, by kernel_rfl, by kernel_rfl⟩
open Classical in
noncomputable def lH (g : FuncId) (vs : List Value) (H : Heap) (nx : Nat) : Option df :=
  if g = 4 ∧ vs = [] then some (.ok (.bool true) H nx) else if g = 16 ∧ D1 vs H nx then some (.ok (.bool true) .e nx) else Option.none
theorem FW {g : FuncId} {vs : List Value} {H : Heap} {nx : Nat} {c : df} (h : lH g vs H nx = some c) : dL Tryz.prog g vs H nx c := by
  unfold lH at h
  split at h
  · rename_i hg
    obtain ⟨rfl, rfl⟩ := hg
    cases h
    exact dL.anywhere (H2 := oj fo.post) (nx2 := fo.nx') oko rfl H nx
  · split at h
    · rename_i hg
      obtain ⟨rfl, hp⟩ := hg
      cases h
      exact CD aok FV (by kernel_rfl) (by kernel_rfl) (fun _ _ _ => rfl) (fun _ _ _ => rfl) hp
    · cases h

noncomputable def mF : aG := ⟨Tryz.prog, fun g => ao all (at_ g), lH⟩
theorem FX : BB Tryz.prog [94] mF := ⟨rfl, insert, mixed, (fun g vs H nx c h => FW h), fun g af h => yU G7 g af h⟩
theorem FY (g : FuncId) (h4 : g ≠ 4) (h16 : g ≠ 16) (vs : List Value) (H : Heap) (nx : Nat) : mF.aH g vs H nx = Option.none := by
  show lH g vs H nx = Option.none
  unfold lH
  rw [if_neg (fun h => h4 h.1), if_neg (fun h => h16 h.1)]
theorem Uw (H : Heap) (nx : Nat) : mF.aH 4 [] H nx = some (.ok (.bool true) H nx) := by
  show lH 4 [] H nx = _
  unfold lH
  rw [if_pos ⟨rfl, rfl⟩]
theorem Qc (vs : List Value) (H : Heap) (nx : Nat) (h : D1 vs H nx) : mF.aH 16 vs H nx = some (.ok (.bool true) .e nx) := by
  show lH 16 vs H nx = _
  unfold lH
  rw [if_neg (fun h => absurd h.1 (by decide)), if_pos ⟨rfl, h⟩]
theorem Ux : uq Tryz.prog 90 := ⟨3, _, Tryz.underlying90, by kernel_rfl, by kernel_rfl, Tryz.underlying3⟩
theorem known : RE mF where
  hk := FY
  hb := Uw
  ha := Qc
  a2 := Ux
  f3 := by kernel_rfl
  f5 := by kernel_rfl
  f6 := by kernel_rfl
  f7 := by kernel_rfl
  f8 := by kernel_rfl
  f9 := by kernel_rfl
  f10 := by kernel_rfl
  f11 := by kernel_rfl
  f12 := by kernel_rfl
  f13 := by kernel_rfl
  f14 := by kernel_rfl
  f15 := by kernel_rfl
  f21 := by kernel_rfl
  f22 := by kernel_rfl
  f23 := by kernel_rfl
  f24 := by kernel_rfl
  f25 := by kernel_rfl
  f26 := by kernel_rfl
  f27 := by kernel_rfl
  f28 := by kernel_rfl
  f29 := by kernel_rfl
  f30 := by kernel_rfl
  f31 := by kernel_rfl
  f32 := by kernel_rfl
  f33 := by kernel_rfl
  f34 := by kernel_rfl
  f35 := by kernel_rfl
  f36 := by kernel_rfl
  f37 := by kernel_rfl
  f38 := by kernel_rfl
  f43 := by kernel_rfl
  f47 := by kernel_rfl
  f48 := by kernel_rfl
  f49 := by kernel_rfl
  f50 := by kernel_rfl
  f51 := by kernel_rfl
  f52 := by kernel_rfl
  f53 := by kernel_rfl
  f54 := by kernel_rfl
  f55 := by kernel_rfl
  f56 := by kernel_rfl
  f57 := by kernel_rfl
  f58 := by kernel_rfl
  f59 := by kernel_rfl
  f60 := by kernel_rfl
  f72 := by kernel_rfl
  f73 := by kernel_rfl
  f74 := by kernel_rfl
  f75 := by kernel_rfl
  f76 := by kernel_rfl
  f77 := by kernel_rfl
  f78 := by kernel_rfl
  f79 := by kernel_rfl
  f80 := by kernel_rfl
  f81 := by kernel_rfl
  f101 := by kernel_rfl
  f102 := by kernel_rfl
  f103 := by kernel_rfl
  f104 := by kernel_rfl
  b4 := Tryz.underlying4
  q4 := by kernel_rfl
  n4 := fun a0 a1 a2 a3 b0 b1 b2 b3 d => AH Tryz.underlying75 (by kernel_rfl) (by decide) (by decide) (by decide) (by decide) rfl rfl rfl rfl Tryz.underlying3 Tryz.underlying3 Tryz.underlying3 Tryz.underlying3 (by kernel_rfl) (by kernel_rfl) (by kernel_rfl) (by kernel_rfl) d

/-! ### what the bound gives -/
theorem one_le {H : Type} (d : DataW H) : 1 ≤ Rows.uptoBulk d := by
  cases d with
  | lit l => cases l <;> simp [Rows.uptoBulk]
  | _ => simp [Rows.uptoBulk]
theorem ng {H : Type} {d : DataW H} {l : List (DataW H)} (h : d ∈ l) : Rows.uptoBulk d ≤ Rows.uptoBulkAll l := by
  induction l with
  | nil => cases h
  | cons x r ih =>
    simp only [Rows.uptoBulkAll]
    rcases List.mem_cons.1 h with e | e
    · subst e; omega
    · have := ih e; omega
theorem length_le {H : Type} (l : List (DataW H)) : l.length ≤ Rows.uptoBulkAll l := by
  induction l with
  | nil => simp [Rows.uptoBulkAll]
  | cons x r ih => have := one_le x; simp only [Rows.uptoBulkAll, List.length_cons]; omega
theorem uE {H : Type} {d : DataW H} {B : Nat} (h : Rows.uptoBulk d ≤ B) : xZ d B := by
  rintro elems spare rfl
  have := length_le elems
  simp only [Rows.uptoBulk] at h
  omega
theorem D3 {H : Type} {d : DataW H} {B : Nat} (h : Rows.uptoBulk d ≤ B) : ∀ elems spare, d = .slice elems spare → ∀ x ∈ elems, xZ x B := by
  rintro elems spare rfl x hx
  have := ng hx
  simp only [Rows.uptoBulk] at h
  exact uE (by omega)

/-! ### the arguments -/
section
variable {X : Type} {enc : TypeId × Value → X} {W : World} {base : Nat}
theorem qS : Tryz.prog.cellsOf 3 = 1 := by kernel_rfl
theorem D4 : Tryz.prog.cellsOf 90 = 2 := by kernel_rfl
theorem L4 : Tryz.prog.cellsOf 22 = 1 := by kernel_rfl
theorem L5 : Tryz.prog.cellsOf 25 = 1 := by kernel_rfl
theorem yl : Tryz.prog.cellsOf 27 = 1 := by kernel_rfl
theorem L6 : Tryz.prog.underlying 90 = some (.array 2 3) := by kernel_rfl

theorem ow {fuel : Nat} {c : List Value} {y : DataW X × List MemPlace} (h : DataW.trod enc Tryz.prog W 0 (fun _ => true) true fuel 3 c = some y) : ∃ a, c = aW a :=
  let ⟨n, h1, _⟩ := DataW.trod_int Tryz.underlying3 h
  ⟨n, h1⟩
theorem L7 {fuel : Nat} {c : List Value} {y : DataW X × List MemPlace} (h : DataW.trod enc Tryz.prog W 0 (fun _ => true) true fuel 90 c = some y) : ∃ a, c = bH a := by
  obtain ⟨xs, m, _, _, hl, hx, hi⟩ := DataW.trod_array L6 h
  rw [D4] at hl
  rw [qS] at hi
  match c, hl with
  | [u, v], _ =>
    have h0 := hi 0 (by omega)
    have h1 := hi 1 (by omega)
    rw [List.getElem?_eq_getElem (by omega)] at h0 h1
    obtain ⟨a, ha⟩ := ow h0
    obtain ⟨b, hb⟩ := ow h1
    simp [aW] at ha hb
    exact ⟨(a, b), by rw [ha, hb]; rfl⟩

theorem pG {t e : TypeId} {v : Value} (ht : Tryz.prog.underlying t = some (.slice e)) (h : Cell.okWide Tryz.prog W .any base t v) : ∀ a len cap, v = .slice (some a) len cap → a.spot = Option.none ∧ ∃ row cells, W.shape? a.block = some (row, cells) := by
  rintro a len cap rfl
  unfold Cell.okWide at h
  rw [ht] at h
  have h' : Cell.ok Tryz.prog W .any base t (.slice (some a) len cap) := h
  unfold Cell.ok at h'
  rw [ht] at h'
  obtain ⟨_, _, _, h2, row, cells, h3, _⟩ := h'
  exact ⟨h2, row, cells, h3⟩

theorem Qd {l : List Value} (h : l.length = 2) : ∃ a b, l = [a, b] := by
  match l, h with
  | [a, b], _ => exact ⟨a, b, rfl⟩
theorem JE {l : List Value} (h : l.length = 3) : ∃ a b c, l = [a, b, c] := by
  match l, h with
  | [a, b, c], _ => exact ⟨a, b, c, rfl⟩

theorem L8 {v0 v1 v2 v3 : Value} {d0 d1 d2 d3 : DataW X} {p0 p1 p2 p3 : List MemPlace} (Qe : Value.okWide Tryz.prog W .any base 24 v0) (Cn : Value.okWide Tryz.prog W .any base 26 v1) (IN : Value.okWide Tryz.prog W .any base 29 v2) (YR : Value.okWide Tryz.prog W .any base 3 v3)
    (h0 : DataW.Trod enc Tryz.prog W 0 (fun _ => true) true 24 v0 d0 p0) (h1 : DataW.Trod enc Tryz.prog W 0 (fun _ => true) true 26 v1 d1 p1) (h2 : DataW.Trod enc Tryz.prog W 0 (fun _ => true) true 29 v2 d2 p2) (h3 : DataW.Trod enc Tryz.prog W 0 (fun _ => true) true 3 v3 d3 p3)
    (lk : Rows.uptoBulkAll [d0, d1, d2, d3] ≤ 1048576) :
    ∃ ρ H nx n o outer ev rv av bv, ∃ es : List (Int × Int), ∃ r bs : List (List Int), ∃ ang : List Int, Ro ρ H nx W.heap ∧ cU ρ [.agg #[.int .i64 n, ev], rv, .agg #[.int .i64 o, av, bv], .int .i64 outer] [v0, v1, v2, v3] ∧
      bP H nx 2 bH ev es ∧ es.length ≤ 1048576 ∧ dZ H nx 1 aW rv r ∧ bX r ∧ bP H nx 1 aW av ang ∧ ang.length ≤ 1048576 ∧ dZ H nx 1 aW bv bs ∧ bX bs := by
  unfold Value.okWide at Qe Cn IN
  rw [Tryz.underlying24] at Qe
  rw [Tryz.underlying26] at Cn
  rw [Tryz.underlying29] at IN
  obtain ⟨cs, rfl, YS, ts, wz, _, sw⟩ := Qe
  obtain ⟨ds, rfl, TN, us, yQ, _, Ri⟩ := IN
  have YT : ts = [3, 22] := by
    have : Tryz.prog.cellTypes Tryz.prog.depth 24 = some [3, 22] := by kernel_rfl
    rw [this] at wz; exact (Option.some.inj wz).symm
  have YU : us = [3, 27, 25] := by
    have : Tryz.prog.cellTypes Tryz.prog.depth 29 = some [3, 27, 25] := by kernel_rfl
    rw [this] at yQ; exact (Option.some.inj yQ).symm
  subst YT YU
  have Uy : cs.size = 2 := by rw [YS]; kernel_rfl
  have Uz : ds.size = 3 := by rw [TN]; kernel_rfl
  obtain ⟨f0, hf0⟩ := h0
  obtain ⟨f1, kV⟩ := h1
  obtain ⟨f2, tI⟩ := h2
  obtain ⟨f3, NI⟩ := h3
  obtain ⟨xs, m, _, YV, _, hxl, yR⟩ := DataW.trod_struct Tryz.underlying24 hf0
  obtain ⟨ys, k, _, hd2, _, hyl, CE⟩ := DataW.trod_struct Tryz.underlying29 tI
  have q0 := yR 0 _ rfl
  have q1 := yR 1 _ rfl
  have r0 := CE 0 _ rfl
  have r1 := CE 1 _ rfl
  have r2 := CE 2 _ rfl
  have aaY : xs.length = 2 := hxl
  have aaZ : ys.length = 3 := hyl
  rw [List.getElem?_eq_getElem (by omega)] at q0 q1 r0 r1 r2
  obtain ⟨cl⟩ := cs
  obtain ⟨dl⟩ := ds
  obtain rfl : d0 = .agg (xs.map (·.1)) := congrArg Prod.fst YV
  obtain rfl : d2 = .agg (ys.map (·.1)) := congrArg Prod.fst hd2
  have b1 : Rows.uptoBulk d1 ≤ 1048576 := by
    have := ng (d := d1) (l := [.agg (xs.map (·.1)), d1, .agg (ys.map (·.1)), d3]) (by simp)
    omega
  have bx : ∀ j (hj : j < 2), Rows.uptoBulk (xs[j]'(by omega)).1 ≤ 1048576 := by
    intro j hj
    have h1 := ng (d := (xs[j]'(by omega)).1) (l := xs.map (·.1)) (List.mem_map.2 ⟨_, List.getElem_mem (by omega), rfl⟩)
    have h2 := ng (d := .agg (xs.map (·.1))) (l := [.agg (xs.map (·.1)), d1, .agg (ys.map (·.1)), d3]) (by simp)
    simp only [Rows.uptoBulk] at h2
    omega
  have Qf : ∀ j (hj : j < 3), Rows.uptoBulk (ys[j]'(by omega)).1 ≤ 1048576 := by
    intro j hj
    have h1 := ng (d := (ys[j]'(by omega)).1) (l := ys.map (·.1)) (List.mem_map.2 ⟨_, List.getElem_mem (by omega), rfl⟩)
    have h2 := ng (d := .agg (ys.map (·.1))) (l := [.agg (xs.map (·.1)), d1, .agg (ys.map (·.1)), d3]) (by simp)
    simp only [Rows.uptoBulk] at h2
    omega
  obtain ⟨c0, c1, rfl⟩ := Qd (l := cl) Uy
  obtain ⟨e0, e1, e2, rfl⟩ := JE (l := dl) Uz
  have YW : DataW.trod enc Tryz.prog W 0 (fun _ => true) true m 3 (List.take (Tryz.prog.cellsOf 3) [c0, c1]) = some xs[0] := q0
  have Ta : DataW.trod enc Tryz.prog W 0 (fun _ => true) true m 22 (List.take (Tryz.prog.cellsOf 22) (List.drop 1 [c0, c1])) = some xs[1] := q1
  rw [qS] at YW
  rw [L4] at Ta
  have q1 : DataW.trod enc Tryz.prog W 0 (fun _ => true) true m 22 [c1] = some xs[1] := Ta
  have q0 : DataW.trod enc Tryz.prog W 0 (fun _ => true) true m 3 [c0] = some xs[0] := YW
  have YX : DataW.trod enc Tryz.prog W 0 (fun _ => true) true k 3 (List.take (Tryz.prog.cellsOf 3) [e0, e1, e2]) = some ys[0] := r0
  have YY : DataW.trod enc Tryz.prog W 0 (fun _ => true) true k 27 (List.take (Tryz.prog.cellsOf 27) (List.drop 1 [e0, e1, e2])) = some ys[1] := r1
  have YZ : DataW.trod enc Tryz.prog W 0 (fun _ => true) true k 25 (List.take (Tryz.prog.cellsOf 25) (List.drop 2 [e0, e1, e2])) = some ys[2] := r2
  rw [qS] at YX
  rw [yl] at YY
  rw [L5] at YZ
  have r0 : DataW.trod enc Tryz.prog W 0 (fun _ => true) true k 3 [e0] = some ys[0] := YX
  have r1 : DataW.trod enc Tryz.prog W 0 (fun _ => true) true k 27 [e1] = some ys[1] := YY
  have r2 : DataW.trod enc Tryz.prog W 0 (fun _ => true) true k 25 [e2] = some ys[2] := YZ
  clear YW Ta YX YY YZ
  obtain ⟨n, hn⟩ := ow q0
  obtain ⟨o, ho⟩ := ow r0
  simp [aW] at hn ho
  subst hn
  subst ho
  obtain ⟨outer, rfl, _⟩ := open_int Tryz.underlying3 YR ⟨f3, NI⟩
  have Y0 : DataW.trod enc Tryz.prog W 0 (fun _ => true) true f1 26 [v1] = some (d1, p1) := by
    have : v1.cells.toList = [v1] := by
      cases v1 <;> first | rfl | (unfold Cell.okWide Cell.ok at Cn; simp [Tryz.underlying26] at Cn)
    rw [this] at kV; exact kV
  have okc : ∀ a len cap, c1 = .slice (some a) len cap → a.spot = Option.none ∧ ∃ row cells, W.shape? a.block = some (row, cells) := by
    obtain ⟨u, h3, h4⟩ := sw 1 c1 rfl
    obtain rfl : u = 22 := by simpa using h3.symm
    exact pG Tryz.underlying22 h4
  have Y1 : ∀ a len cap, e1 = .slice (some a) len cap → a.spot = Option.none ∧ ∃ row cells, W.shape? a.block = some (row, cells) := by
    obtain ⟨u, h3, h4⟩ := Ri 1 e1 rfl
    obtain rfl : u = 27 := by simpa using h3.symm
    exact pG Tryz.underlying27 h4
  have Y2 : ∀ a len cap, e2 = .slice (some a) len cap → a.spot = Option.none ∧ ∃ row cells, W.shape? a.block = some (row, cells) := by
    obtain ⟨u, h3, h4⟩ := Ri 2 e2 rfl
    obtain rfl : u = 25 := by simpa using h3.symm
    exact pG Tryz.underlying25 h4
  obtain ⟨ρ1, H1, ev, es, e1', Y3, _, NJ, VW⟩ := oq (encα := bH) (z := 2) Tryz.underlying22 D4 (by omega) (fun _ => rfl) (fun _ => rfl) (fun _ _ _ h => L7 h) okc q1 (Ro.empty W.heap)
  have le := uu Tryz.underlying22 q1 NJ VW (uE (bx 1 (by omega)))
  obtain ⟨ρ2, H2, n2, rv, r, e2', Y4, fq, bI, Y5, Y6, lr, lr'⟩ := pz (B := 1048576) (encα := aW) (z := 1) Tryz.underlying26 Tryz.underlying27 yl qS (by omega) (fun _ => rfl) (fun _ => rfl) (fun _ _ _ h => ow h) (pG Tryz.underlying26 Cn) Y0 (uE b1) (D3 b1) Y3
  obtain ⟨ρ3, H3, av, ang, e3', Y7, eL, M3, hsa⟩ := oq (encα := aW) (z := 1) Tryz.underlying27 qS (by omega) (fun _ => rfl) (fun _ => rfl) (fun _ _ _ h => ow h) Y1 r1 Y4
  have la := uu Tryz.underlying27 r1 M3 hsa (uE (Qf 1 (by omega)))
  obtain ⟨ρ4, H4, n4, bv, bs, Y8, Y9, G1, rL, hvb, ym, lb, lb'⟩ := pz (B := 1048576) (encα := aW) (z := 1) Tryz.underlying25 Tryz.underlying27 yl qS (by omega) (fun _ => rfl) (fun _ => rfl) (fun _ _ _ h => ow h) Y2 r2 (uE (Qf 2 (by omega))) (D3 (Qf 2 (by omega))) Y7
  refine ⟨ρ4, H4, n4, n, o, outer, ev, rv, av, bv, es, r, bs, ang, Y9, .cons (.agg (.cons (.sc rfl) (.cons (((NJ.mono e2').mono e3').mono Y8) .nil))) (.cons ((Y5.mono e3').mono Y8) (.cons (.agg (.cons (.sc rfl) (.cons (M3.mono Y8) (.cons hvb .nil)))) (.cons (.sc rfl) .nil))),
    ?_, le, ?_, ⟨lr, lr'⟩, ?_, la, ym, ⟨lb, lb'⟩⟩
  · exact (((((VW.same bI).up fq).same eL).up (Nat.le_succ _)).same rL).up G1
  · exact (((Y6.same eL).up (Nat.le_succ _)).same rL).up G1
  · exact (hsa.same rL).up G1
end

theorem walk {X : Type} {enc : TypeId × Value → X} {W : World} {base : Nat} {v0 v1 v2 v3 : Value} {d0 d1 d2 d3 : DataW X} {p0 p1 p2 p3 : List MemPlace} (Qe : Value.okWide Tryz.prog W .any base 24 v0) (Cn : Value.okWide Tryz.prog W .any base 26 v1) (IN : Value.okWide Tryz.prog W .any base 29 v2) (YR : Value.okWide Tryz.prog W .any base 3 v3)
    (h0 : DataW.Trod enc Tryz.prog W 0 (fun _ => true) true 24 v0 d0 p0) (h1 : DataW.Trod enc Tryz.prog W 0 (fun _ => true) true 26 v1 d1 p1) (h2 : DataW.Trod enc Tryz.prog W 0 (fun _ => true) true 29 v2 d2 p2) (h3 : DataW.Trod enc Tryz.prog W 0 (fun _ => true) true 3 v3 d3 p3)
    (lk : Rows.uptoBulkAll [d0, d1, d2, d3] ≤ 1048576) :
    Calls Tryz.prog 3 #[v0, v1, v2, v3] W fun e w' => e = .returned (.bool true) ∧ Kept W w' := by
  obtain ⟨ρ, H, nx, n, o, outer, ev, rv, av, bv, es, r, bs, ang, j9, lh, he, eB, hr, Y6, ha, Za, hb, ym⟩ := L8 Qe Cn IN YR h0 h1 h2 h3 lk
  obtain ⟨m, v, H', nx', fw, rfl⟩ := (JF known (n := n) (o := o) (outer := outer) he eB hr Y6 ha Za hb ym).out
  refine (((xR FX m).1 3 _ H nx _ fw).2 ρ [v0, v1, v2, v3] W lh j9.hr).mono fun e w' hr => ?_
  obtain ⟨u, ρ', g1, g2, g3⟩ := hr
  exact ⟨by rw [g1, g2.dM rfl], L3 j9.ro g3.gM⟩

theorem own : ownKnob Tryz.prog.godebug = Option.none := by kernel_rfl
theorem laid : laidOutB Tryz.prog = true := by kernel_rfl

theorem yn {H : Type} {enc : TypeId × Value → H} {P : Program} {f : Func} {s : ChangeSpec} {apart fresh handsOn : Bool} {W W' : World} {args : Array Value} {v : Value} {ds gs : List (DataW H)} {before pa pv : List MemPlace}
    (hW : DataW.Whole enc P f.params.toList s.vars apart W args.toList ds gs before)
    (Fi : ∀ (b : Nat) (sp : Nat → Bool) (hd : Bool), DataW.TrodAll enc P W' b sp hd f.resultTypes.toList (v.resultList f.resultTypes.size) (s.fn H (ds ++ gs)).results [])
    (b5 : ∀ sp : Nat → Bool, (∀ p ∈ before, sp p.block = true) → DataW.TrodAll enc P W' 0 sp true f.params.toList args.toList (s.fn H (ds ++ gs)).args pa)
    (UA : ∀ sp : Nat → Bool, (∀ p ∈ before, sp p.block = true) → DataW.TrodVars enc P W' sp s.vars (s.fn H (ds ++ gs)).vars pv)
    (hk : Kept W W') : s.post enc P f apart fresh handsOn false W args v W' := by
  have hold : ∀ p ∈ before, (fun b => decide (b < W.heap.size)) p.block = true := fun p hp => by simpa using hW.lt p hp
  exact ⟨ds, gs, before, [], pa, pv, hW, Fi _ _ _, b5 _ hold, UA _ hold, hk.qL _, fun h => by cases h⟩

/-- what is kept reads the same -/
theorem L9 {W W' : World} {p : MemPlace} (h : Kept W W') (hp : p.block < W.heap.size) : W.sameAt W' p := by
  cases p with
  | cell b o => exact World.cell?_of_block (w := W) (h.2.2 b hp)
  | map b => exact h.2.2 b hp

/-! ### the row -/
theorem JG (H : Type) (enc : TypeId × Value → H) (W : World) (base : Nat) (args : Array Value) (ds gs : List (DataW H)) (before : List MemPlace)
    (NK : ∀ (j : Nat) t v, Tryz.f3.params[j]? = some t → args[j]? = some v → Value.okWide Tryz.prog W .any base t v)
    (hW : DataW.Whole enc Tryz.prog Tryz.f3.params.toList Rows.orthoAllSpec.vars false W args.toList ds gs before) (hk : Rows.uptoSmall H (ds ++ gs) = true) :
    Calls Tryz.prog 3 args W fun e W' => ∃ v, e = .returned v ∧ Rows.orthoAllSpec.post enc Tryz.prog Tryz.f3 false true false false W args v W' := by
  have tK : ∀ (j : Nat) t v, Tryz.f3.params[j]? = some t → args[j]? = some v → Value.okWide Tryz.prog W .any base t v := NK
  have hW' := hW
  have bR := fun p hp => hW.lt p hp
  obtain ⟨p, q, hA0, hV, rfl, hfz, Ng⟩ := hW
  have hA : DataW.TrodAll enc Tryz.prog W 0 (fun _ => true) true Tryz.f3.params.toList args.toList ds p := hA0
  rw [Tryz.params3] at hA tK
  obtain ⟨v0, vs0, d0, ds0, p0, q0, b5, rfl, rfl, h0, r0⟩ := trodAll_cons hA
  obtain ⟨v1, vs1, d1, ds1, p1, q1, rfl, rfl, rfl, h1, r1⟩ := trodAll_cons r0
  obtain ⟨v2, IP, d2, ds2, p2, q2, rfl, rfl, rfl, h2, r2⟩ := trodAll_cons r1
  obtain ⟨v3, vs3, d3, ds3, p3, q3, rfl, rfl, rfl, h3, r3⟩ := trodAll_cons r2
  obtain ⟨rfl, rfl, rfl⟩ := trodAll_nil r3
  obtain rfl : args = #[v0, v1, v2, v3] := by cases args; simp_all
  obtain ⟨rfl, rfl⟩ := trodVars_none hV
  have k0 := tK 0 24 v0 rfl rfl
  have k1 := tK 1 26 v1 rfl rfl
  have k2 := tK 2 29 v2 rfl rfl
  have k3 := tK 3 3 v3 rfl rfl
  clear hA0 NK
  simp only [List.append_nil] at hW' bR hk
  have RF : Rows.uptoBulkAll [d0, d1, d2, d3] ≤ 1048576 := of_decide_eq_true hk
  refine (walk k0 k1 k2 k3 h0 h1 h2 h3 RF).mono fun e W' ⟨he, hg⟩ => ?_
  subst he
  refine ⟨_, rfl, yn (pa := p0 ++ (p1 ++ (p2 ++ (p3 ++ [])))) (pv := []) hW' (fun _ _ _ => (trodAll_cons_mk (shut_bool Tryz.underlying4 _) trodAll_mk0)) (fun sp xQ => ?_) (fun _ _ => rfl) hg⟩
  rw [Tryz.params3]
  have key : ∀ x ∈ p0 ++ (p1 ++ (p2 ++ p3)), W.sameAt W' x := fun x hx => L9 hg (bR x (by simpa using hx))
  refine trodAll_cons_mk (WideElems.Trod_stays laid (by kernel_rfl) (of_decide_eq_true (by kernel_rfl)) h0 (fun x hx => key x (by simp [hx])) (fun x hx => xQ x (by simp [hx])))
    (trodAll_cons_mk (WideElems.Trod_stays laid (by kernel_rfl) (of_decide_eq_true (by kernel_rfl)) h1 (fun x hx => key x (by simp [hx])) (fun x hx => xQ x (by simp [hx])))
    (trodAll_cons_mk (WideElems.Trod_stays laid (by kernel_rfl) (of_decide_eq_true (by kernel_rfl)) h2 (fun x hx => key x (by simp [hx])) (fun x hx => xQ x (by simp [hx])))
    (trodAll_cons_mk (WideElems.Trod_stays laid (by kernel_rfl) (of_decide_eq_true (by kernel_rfl)) h3 (fun x hx => key x (by simp [hx])) (fun x hx => xQ x (by simp [hx]))) trodAll_mk0)))

theorem lifted (os : Os) (started : os.Started) (H : Type) (enc : TypeId × Value → H) (F : Stop.Interp) :
    ReturnsInHanded {} Tryz.checked os 3 .any ((Rows.OpenSpec.upto Rows.orthoAllSpec).pre6 enc Tryz.prog Tryz.f3 Rows.orthoAllUptoRow.domain false) (((Rows.OpenSpec.upto Rows.orthoAllSpec).at F).post enc Tryz.prog Tryz.f3 false true false false) := by
  refine returnsInHanded_of_cond (C := Tryz.checked) (s := Rows.OpenSpec.upto Rows.orthoAllSpec) (k := Rows.uptoSmall) rfl own started (by kernel_rfl) Tryz.func3
    (OpenSpec.witness (enc := enc) (C := Tryz.checked) (s := Rows.OpenSpec.upto Rows.orthoAllSpec) (k := Rows.uptoSmall) rfl false ⟨#[], #[.agg #[.int .i64 0, .slice Option.none 0 0], .slice Option.none 0 0, .agg #[.int .i64 0, .slice Option.none 0 0, .slice Option.none 0 0], .int .i64 0], []⟩ 8 (by kernel_rfl) (by kernel_rfl) (by kernel_rfl)
      (x := ([.agg [.lit (.int .i64 0), .nil], .nil, .agg [.lit (.int .i64 0), .nil, .nil], .lit (.int .i64 0)], [], [])) (by kernel_rfl) rfl (by kernel_rfl)) ?_
  intro W base args ds gs before tK hW _ hk _
  exact JG H enc W base args ds gs before tK hW hk

theorem gA : Rows.orthoAllUptoRow.holds Tryz.pinned (Rows.OpenSpec.upto Rows.orthoAllSpec) :=
  OpenClaim.holds_of_cond 3 Tryz.f3 rfl rfl rfl rfl rfl rfl rfl ⟨rfl, rfl, rfl, rfl, rfl⟩ rfl rfl rfl rfl rfl (by kernel_rfl) Tryz.func3 (by kernel_rfl)
    (of_decide_eq_true (by kernel_rfl)) (by unfold Func.isWrapper; first | (rw [if_pos (by decide +kernel)]; kernel_rfl) | (rw [if_neg (by decide +kernel)]; exact ⟨rfl, rfl⟩))
    (fun os started H enc _ F => lifted os started H enc F)

theorem proved : Rows.OrthoAllUptoSaid :=
  gA
#print axioms proved
end Go.Proofs.YtfejkbfafacdcaaGreat.orthoAll
