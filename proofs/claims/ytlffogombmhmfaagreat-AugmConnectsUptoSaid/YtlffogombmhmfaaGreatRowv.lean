/-
  Components are joined as the document has it, to the edge and corner: 'tracerylaw21.AugmConnects' gives true for every net and rotation whose reading is of bulk at most 1048576, and they read as they did.
  'begun' is computed by an interpreter of the model's code that is proved right for every draw; all else is shown for every input by a program logic over that interpreter.
-/
import Derived.Test.YtlffogombmhmfaaGreatRows
import Derived.WalkKit
import Derived.ProofKit
import Derived.OpenShut
import Derived.SizedLaws
import Derived.JoinedCond
import Derived.Test.YtlffogombmhmfaaGreatEe
import Derived.Test.YtlffogombmhmfaaGreatWf
import Derived.Test.YtlffogombmhmfaaGreatBo
namespace Go.Proofs.YtlffogombmhmfaaGreat.augmConnects
open Go.Eng
open Go.ChangeShapes Go.WideShapes Go.ChangeAt Go.RowKit
set_option linter.unusedVariables false
set_option maxRecDepth 100000

/-- what was there is what it was -/
def Kept (w w' : World) : Prop := w'.os = w.os ∧ w'.output = w.output ∧ ∀ i : Nat, i < w.heap.size → w'.heap[i]? = w.heap[i]?

theorem Kept.vh {w w' : World} (h : Kept w w') (may : MemPlace → Prop) : w.keptBut w' may := by
  refine ⟨h.1, h.2.1, fun i hi => ?_⟩
  rw [h.2.2 i hi]
  cases w.heap[i]? with
  | none => rfl
  | some o =>
    cases o <;> first | rfl | exact ⟨rfl, rfl, rfl, fun _ _ => rfl⟩ | exact .inr ⟨rfl, rfl⟩

theorem Na {ρ ρ' : bB} {H H' : Heap} {w w' : World} (j7 : ∀ b k, ak H (at_ b) = some k → k.ig = false) (h : BX ρ H w ρ' H' w') : Kept w w' :=
  ⟨h.os, h.output, fun i hi => h.frame i hi (fun ⟨b, x, s, hb, hm, _⟩ => by rw [j7 b x hb] at hm; cases hm)⟩

theorem GJ : er Tryz.prog 16 := ⟨Tryz.f16, Tryz.func16, by kernel_rfl, by kernel_rfl⟩
theorem GK : er Tryz.prog 17 := ⟨Tryz.f17, Tryz.func17, by kernel_rfl, by kernel_rfl⟩
open Classical in
noncomputable def jE (g : FuncId) (vs : List Value) (H : Heap) (nx : Nat) : Option cV :=
  if g = 4 ∧ vs = [] then some (.ok (.bool true) H nx) else if g = 17 ∧ Bj vs H nx then some (.ok (.bool true) .e nx) else if h : g = 16 ∧ ∃ b, uj vs H b then some (.ok (.tuple #[]) (kill H (Classical.choose h.2)) nx) else Option.none
theorem GL {g : FuncId} {vs : List Value} {H : Heap} {nx : Nat} {c : cV} (h : jE g vs H nx = some c) : cO Tryz.prog g vs H nx c := by
  unfold jE at h
  split at h
  · rename_i hg
    obtain ⟨rfl, rfl⟩ := hg
    cases h
    exact cO.anywhere (H2 := og fo.post) (nx2 := fo.nx') oko rfl H nx
  · split at h
    · rename_i hg
      obtain ⟨rfl, hp⟩ := hg
      cases h
      exact Dj XW GK (by kernel_rfl) (by kernel_rfl) (fun _ _ _ => rfl) (fun _ _ _ => rfl) hp
    · split at h
      · rename_i hg
        obtain ⟨rfl, hp⟩ := id hg
        cases h
        exact Dk XW GJ (by kernel_rfl) (by kernel_rfl) (fun _ _ _ => rfl) (fun _ _ _ => rfl) (Classical.choose_spec hg.2)
      · cases h

noncomputable def ke : aG := ⟨Tryz.prog, fun g => ak all (at_ g), jE⟩
theorem GM : zw Tryz.prog [112] ke := ⟨rfl, insert, mixed, (fun g vs H nx c h => GL h), fun g af h => zx HZ g af h⟩
theorem GO (g : FuncId) (h4 : g ≠ 4) (h16 : g ≠ 16) (h17 : g ≠ 17) (vs : List Value) (H : Heap) (nx : Nat) : ke.aF g vs H nx = Option.none := by
  show jE g vs H nx = Option.none
  unfold jE
  rw [if_neg (fun h => h4 h.1), if_neg (fun h => h17 h.1), dif_neg (fun h => h16 h.1)]
theorem Vw (H : Heap) (nx : Nat) : ke.aF 4 [] H nx = some (.ok (.bool true) H nx) := by
  show jE 4 [] H nx = _
  unfold jE
  rw [if_pos ⟨rfl, rfl⟩]
theorem QX (vs : List Value) (H : Heap) (nx : Nat) (h : Bj vs H nx) : ke.aF 17 vs H nx = some (.ok (.bool true) .e nx) := by
  show jE 17 vs H nx = _
  unfold jE
  rw [if_neg (fun h => absurd h.1 (by decide)), if_pos ⟨rfl, h⟩]
theorem QY {vs : List Value} {H : Heap} {b b' : Nat} (h : uj vs H b) (h' : uj vs H b') : b = b' := by
  obtain ⟨n, l, c, cs, rfl, _⟩ := h
  obtain ⟨n', l', c', cs', e, _⟩ := h'
  have e1 := congrArg Array.toList (Value.agg.inj (List.cons.inj e).1)
  have e2 := (List.cons.inj (List.cons.inj e1).2).1
  have e3 := (Value.slice.inj e2).1
  exact (Addr.mk.inj (Option.some.inj e3)).1
theorem QZ (vs : List Value) (H : Heap) (nx b : Nat) (h : uj vs H b) : ke.aF 16 vs H nx = some (.ok (.tuple #[]) (kill H b) nx) := by
  show jE 16 vs H nx = _
  unfold jE
  have hx : (16 : Nat) = 16 ∧ ∃ b, uj vs H b := ⟨rfl, b, h⟩
  rw [if_neg (fun h => absurd h.1 (by decide)), if_neg (fun h => absurd h.1 (by decide)), dif_pos hx, QY (Classical.choose_spec hx.2) h]
theorem Vx : yw Tryz.prog 49 := ⟨3, _, Tryz.underlying49, by kernel_rfl, by kernel_rfl, Tryz.underlying3⟩
theorem known : fG ke where
  hk := GO
  hb := Vw
  hs := QZ
  ha := QX
  q49 := MV.arr (by kernel_rfl) Vx
  q57 := ⟨by kernel_rfl, fun a0 a1 b0 b1 => Bd Tryz.underlying57 (by kernel_rfl) (by decide) (by decide) rfl rfl Tryz.underlying3 Tryz.underlying3 (by kernel_rfl) (by kernel_rfl) 9998⟩
  Ki := by kernel_rfl
  Bk := by kernel_rfl
  Kj := by kernel_rfl
  Kk := by kernel_rfl
  OJ := by kernel_rfl
  um := by kernel_rfl
  Kl := by kernel_rfl
  Km := by kernel_rfl
  Kn := by kernel_rfl
  Ko := by kernel_rfl
  Kp := by kernel_rfl
  ET := by kernel_rfl
  Bl := by kernel_rfl
  Vy := by kernel_rfl
  OL := by kernel_rfl
  Kq := by kernel_rfl
  Kr := by kernel_rfl
  OM := by kernel_rfl
  EU := by kernel_rfl
  ON := by kernel_rfl
  Bm := by kernel_rfl
  Ks := by kernel_rfl
  EV := by kernel_rfl
  Kt := by kernel_rfl
  Ku := by kernel_rfl
  Vz := by kernel_rfl
  EW := by kernel_rfl
  Kv := by kernel_rfl
  OO := by kernel_rfl
  VA := by kernel_rfl
  EX := by kernel_rfl
  Bn := by kernel_rfl
  EY := by kernel_rfl
  VB := by kernel_rfl
  Kw := by kernel_rfl
  xf := by kernel_rfl
  VC := by kernel_rfl
  Nb := by kernel_rfl
  xg := by kernel_rfl
  pJ := by kernel_rfl
  OP := by kernel_rfl
  Kx := by kernel_rfl
  fTo := by kernel_rfl
  EZ := by kernel_rfl
  E0 := by kernel_rfl
  yG := by kernel_rfl
  yH := by kernel_rfl
  sJ := by kernel_rfl
  xh := by kernel_rfl
  fOf := by kernel_rfl
  VD := by kernel_rfl
  Dl := by kernel_rfl
  Ky := by kernel_rfl
  yI := by kernel_rfl
  yJ := by kernel_rfl
  Q0 := by kernel_rfl
  yK := by kernel_rfl
  uo := by kernel_rfl
  Q1 := by kernel_rfl
  Kz := by kernel_rfl
  KB := by kernel_rfl
  KC := by kernel_rfl
  E1 := by kernel_rfl
  E2 := by kernel_rfl
  OQ := by kernel_rfl
  OS := by kernel_rfl
  OT := by kernel_rfl

/-! ### what the bound gives -/
theorem one_le {H : Type} (d : DataW H) : 1 ≤ Rows.uptoBulk d := by
  cases d with
  | lit l => cases l <;> simp [Rows.uptoBulk]
  | _ => simp [Rows.uptoBulk]
theorem E3 {H : Type} {d : DataW H} {l : List (DataW H)} (h : d ∈ l) : Rows.uptoBulk d ≤ Rows.uptoBulkAll l := by
  induction l with
  | nil => cases h
  | cons x r ih =>
    simp only [Rows.uptoBulkAll]
    rcases List.mem_cons.1 h with e | e
    · subst e; omega
    · have := ih e; omega
theorem length_le {H : Type} (l : List (DataW H)) : l.length ≤ Rows.uptoBulkAll l := by
  induction l with
  | nil => simp [Rows.uptoBulkAll]
  | cons x r ih => have := one_le x; simp only [Rows.uptoBulkAll, List.length_cons]; omega
theorem KD {H : Type} {d : DataW H} {B : Nat} (h : Rows.uptoBulk d ≤ B) : yx d B := by
  rintro elems spare rfl
  have := length_le elems
  simp only [Rows.uptoBulk] at h
  omega
theorem Nc {H : Type} {d : DataW H} {B : Nat} (h : Rows.uptoBulk d ≤ B) : ∀ elems spare, d = .slice elems spare → ∀ x ∈ elems, yx x B := by
  rintro elems spare rfl x hx
  have := E3 hx
  simp only [Rows.uptoBulk] at h
  exact KD (by omega)

/-! ### the arguments -/
section
variable {X : Type} {enc : TypeId × Value → X} {W : World} {base : Nat}
theorem Dm : Tryz.prog.cellsOf 3 = 1 := by kernel_rfl
theorem E4 : Tryz.prog.cellsOf 49 = 2 := by kernel_rfl
theorem Nd : Tryz.prog.cellsOf 22 = 1 := by kernel_rfl
theorem Nf : Tryz.prog.cellsOf 50 = 1 := by kernel_rfl
theorem Ng : Tryz.prog.underlying 49 = some (.array 2 3) := by kernel_rfl

theorem yL {fuel : Nat} {c : List Value} {y : DataW X × List MemPlace} (h : DataW.trod enc Tryz.prog W 0 (fun _ => true) true fuel 3 c = some y) : ∃ a, c = bq a :=
  let ⟨n, h1, _⟩ := DataW.trod_int Tryz.underlying3 h
  ⟨n, h1⟩
theorem Nh {fuel : Nat} {c : List Value} {y : DataW X × List MemPlace} (h : DataW.trod enc Tryz.prog W 0 (fun _ => true) true fuel 49 c = some y) : ∃ a, c = a5 a := by
  obtain ⟨xs, m, _, _, hl, hx, hi⟩ := DataW.trod_array Ng h
  rw [E4] at hl
  rw [Dm] at hi
  match c, hl with
  | [u, v], _ =>
    have h0 := hi 0 (by omega)
    have h1 := hi 1 (by omega)
    rw [List.getElem?_eq_getElem (by omega)] at h0 h1
    obtain ⟨a, ha⟩ := yL h0
    obtain ⟨b, hb⟩ := yL h1
    simp [bq] at ha hb
    exact ⟨(a, b), by rw [ha, hb]; rfl⟩

theorem Bo {t e : TypeId} {v : Value} (ht : Tryz.prog.underlying t = some (.slice e)) (h : Cell.okWide Tryz.prog W .any base t v) : ∀ a len cap, v = .slice (some a) len cap → a.spot = Option.none ∧ ∃ row cells, W.shape? a.block = some (row, cells) := by
  rintro a len cap rfl
  unfold Cell.okWide at h
  rw [ht] at h
  have h' : Cell.ok Tryz.prog W .any base t (.slice (some a) len cap) := h
  unfold Cell.ok at h'
  rw [ht] at h'
  obtain ⟨_, _, _, h2, row, cells, h3, _⟩ := h'
  exact ⟨h2, row, cells, h3⟩

theorem Q2 {l : List Value} (h : l.length = 2) : ∃ a b, l = [a, b] := by
  match l, h with
  | [a, b], _ => exact ⟨a, b, rfl⟩
theorem Ni {v0 v1 : Value} {d0 d1 : DataW X} {p0 p1 : List MemPlace} (Q3 : Value.okWide Tryz.prog W .any base 24 v0) (yt : Value.okWide Tryz.prog W .any base 26 v1)
    (h0 : DataW.Trod enc Tryz.prog W 0 (fun _ => true) true 24 v0 d0 p0) (h1 : DataW.Trod enc Tryz.prog W 0 (fun _ => true) true 26 v1 d1 p1)
    (lG : Rows.uptoBulkAll [d0, d1] ≤ 1048576) :
    ∃ ρ H nx n ev rv, ∃ es : List (Int × Int), ∃ r : List (List Int), Ro ρ H nx W.heap ∧ cL ρ [.agg #[.int .i64 n, ev], rv] [v0, v1] ∧
      bS H nx 2 a5 ev es ∧ eY H nx 1 bq rv r ∧ b8 r := by
  unfold Value.okWide at Q3 yt
  rw [Tryz.underlying24] at Q3
  rw [Tryz.underlying26] at yt
  obtain ⟨cs, rfl, aaj, ts, wK, _, nj⟩ := Q3
  have aak : ts = [3, 22] := by
    have : Tryz.prog.cellTypes Tryz.prog.depth 24 = some [3, 22] := by kernel_rfl
    rw [this] at wK; exact (Option.some.inj wK).symm
  subst aak
  have VE : cs.size = 2 := by rw [aaj]; kernel_rfl
  obtain ⟨f0, hf0⟩ := h0
  obtain ⟨f1, iR⟩ := h1
  obtain ⟨xs, m, _, hd0, _, hxl, OU⟩ := DataW.trod_struct Tryz.underlying24 hf0
  have q0 := OU 0 _ rfl
  have q1 := OU 1 _ rfl
  have abJ : xs.length = 2 := hxl
  rw [List.getElem?_eq_getElem (by omega)] at q0 q1
  obtain ⟨cl⟩ := cs
  obtain rfl : d0 = .agg (xs.map (·.1)) := congrArg Prod.fst hd0
  have b1 : Rows.uptoBulk d1 ≤ 1048576 := by
    have := E3 (d := d1) (l := [.agg (xs.map (·.1)), d1]) (by simp)
    omega
  obtain ⟨c0, c1, rfl⟩ := Q2 (l := cl) VE
  have q0' : DataW.trod enc Tryz.prog W 0 (fun _ => true) true m 3 (List.take (Tryz.prog.cellsOf 3) [c0, c1]) = some xs[0] := q0
  have Uj : DataW.trod enc Tryz.prog W 0 (fun _ => true) true m 22 (List.take (Tryz.prog.cellsOf 22) (List.drop 1 [c0, c1])) = some xs[1] := q1
  rw [Dm] at q0'
  rw [Nd] at Uj
  have q1 : DataW.trod enc Tryz.prog W 0 (fun _ => true) true m 22 [c1] = some xs[1] := Uj
  have q0 : DataW.trod enc Tryz.prog W 0 (fun _ => true) true m 3 [c0] = some xs[0] := q0'
  clear q0' Uj
  obtain ⟨n, hn⟩ := yL q0
  simp [bq] at hn
  subst hn
  have aal : DataW.trod enc Tryz.prog W 0 (fun _ => true) true f1 26 [v1] = some (d1, p1) := by
    have : v1.cells.toList = [v1] := by
      cases v1 <;> first | rfl | (unfold Cell.okWide Cell.ok at yt; simp [Tryz.underlying26] at yt)
    rw [this] at iR; exact iR
  have okc : ∀ a len cap, c1 = .slice (some a) len cap → a.spot = Option.none ∧ ∃ row cells, W.shape? a.block = some (row, cells) := by
    obtain ⟨u, h3, h4⟩ := nj 1 c1 rfl
    obtain rfl : u = 22 := by simpa using h3.symm
    exact Bo Tryz.underlying22 h4
  obtain ⟨ρ1, H1, ev, es, e1', aam, _, Q4, YL⟩ := tZ (encα := a5) (z := 2) Tryz.underlying22 E4 (by omega) (fun _ => rfl) (fun _ => rfl) (fun _ _ _ h => Nh h) okc q1 (Ro.empty W.heap)
  obtain ⟨ρ2, H2, n2, rv, r, e2', aan, eW, bL, hvr, zp, lr, lr'⟩ := yy (B := 1048576) (encα := bq) (z := 1) Tryz.underlying26 Tryz.underlying50 Nf Dm (by omega) (fun _ => rfl) (fun _ => rfl) (fun _ _ _ h => yL h) (Bo Tryz.underlying26 yt) aal (KD b1) (Nc b1) aam
  exact ⟨ρ2, H2, n2, n, ev, rv, es, r, aan, .cons (.agg (.cons (.sc rfl) (.cons (Q4.mono e2') .nil))) (.cons hvr .nil), (YL.same bL).up eW, zp, ⟨lr, lr'⟩⟩
end

theorem walk {X : Type} {enc : TypeId × Value → X} {W : World} {base : Nat} {v0 v1 : Value} {d0 d1 : DataW X} {p0 p1 : List MemPlace} (Q3 : Value.okWide Tryz.prog W .any base 24 v0) (yt : Value.okWide Tryz.prog W .any base 26 v1)
    (h0 : DataW.Trod enc Tryz.prog W 0 (fun _ => true) true 24 v0 d0 p0) (h1 : DataW.Trod enc Tryz.prog W 0 (fun _ => true) true 26 v1 d1 p1)
    (lG : Rows.uptoBulkAll [d0, d1] ≤ 1048576) :
    Calls Tryz.prog 3 #[v0, v1] W fun e w' => e = .returned (.bool true) ∧ Kept W w' := by
  obtain ⟨ρ, H, nx, n, ev, rv, es, r, j7, j6, he, hr, zp⟩ := Ni Q3 yt h0 h1 lG
  obtain ⟨m, v, H', nx', eN, rfl⟩ := (Dn known (n := n) he hr zp).out
  refine (((tS GM m).1 3 _ H nx _ eN).2 ρ [v0, v1] W j6 j7.hr).mono fun e w' hr => ?_
  obtain ⟨u, ρ', g1, g2, g3⟩ := hr
  exact ⟨by rw [g1, g2.dE rfl], Na j7.ro g3.fF⟩

theorem own : ownKnob Tryz.prog.godebug = Option.none := by kernel_rfl
theorem laid : laidOutB Tryz.prog = true := by kernel_rfl

theorem yM {H : Type} {enc : TypeId × Value → H} {P : Program} {f : Func} {s : ChangeSpec} {apart fresh handsOn : Bool} {W W' : World} {args : Array Value} {v : Value} {ds gs : List (DataW H)} {before pa pv : List MemPlace}
    (hW : DataW.Whole enc P f.params.toList s.vars apart W args.toList ds gs before)
    (Gg : ∀ (b : Nat) (sp : Nat → Bool) (hd : Bool), DataW.TrodAll enc P W' b sp hd f.resultTypes.toList (v.resultList f.resultTypes.size) (s.fn H (ds ++ gs)).results [])
    (bQ : ∀ sp : Nat → Bool, (∀ p ∈ before, sp p.block = true) → DataW.TrodAll enc P W' 0 sp true f.params.toList args.toList (s.fn H (ds ++ gs)).args pa)
    (VF : ∀ sp : Nat → Bool, (∀ p ∈ before, sp p.block = true) → DataW.TrodVars enc P W' sp s.vars (s.fn H (ds ++ gs)).vars pv)
    (hk : Kept W W') : s.post enc P f apart fresh handsOn false W args v W' := by
  have hold : ∀ p ∈ before, (fun b => decide (b < W.heap.size)) p.block = true := fun p hp => by simpa using hW.lt p hp
  exact ⟨ds, gs, before, [], pa, pv, hW, Gg _ _ _, bQ _ hold, VF _ hold, hk.vh _, fun h => by cases h⟩

/-- what is kept reads the same -/
theorem Nj {W W' : World} {p : MemPlace} (h : Kept W W') (hp : p.block < W.heap.size) : W.sameAt W' p := by
  cases p with
  | cell b o => exact World.cell?_of_block (w := W) (h.2.2 b hp)
  | map b => exact h.2.2 b hp

/-! ### the row -/
theorem KE (H : Type) (enc : TypeId × Value → H) (W : World) (base : Nat) (args : Array Value) (ds gs : List (DataW H)) (before : List MemPlace)
    (OV : ∀ (j : Nat) t v, Tryz.f3.params[j]? = some t → args[j]? = some v → Value.okWide Tryz.prog W .any base t v)
    (hW : DataW.Whole enc Tryz.prog Tryz.f3.params.toList Rows.augmConnectsSpec.vars false W args.toList ds gs before) (hk : Rows.uptoSmall H (ds ++ gs) = true) :
    Calls Tryz.prog 3 args W fun e W' => ∃ v, e = .returned v ∧ Rows.augmConnectsSpec.post enc Tryz.prog Tryz.f3 false true false false W args v W' := by
  have xZ : ∀ (j : Nat) t v, Tryz.f3.params[j]? = some t → args[j]? = some v → Value.okWide Tryz.prog W .any base t v := OV
  have hW' := hW
  have cf := fun p hp => hW.lt p hp
  obtain ⟨p, q, hA0, hV, rfl, hfz, SH⟩ := hW
  have hA : DataW.TrodAll enc Tryz.prog W 0 (fun _ => true) true Tryz.f3.params.toList args.toList ds p := hA0
  rw [Tryz.params3] at hA xZ
  obtain ⟨v0, vs0, d0, ds0, p0, q0, bQ, rfl, rfl, h0, r0⟩ := trodAll_cons hA
  obtain ⟨v1, vs1, d1, ds1, p1, q1, rfl, rfl, rfl, h1, r1⟩ := trodAll_cons r0
  obtain ⟨rfl, rfl, rfl⟩ := trodAll_nil r1
  obtain rfl : args = #[v0, v1] := by cases args; simp_all
  obtain ⟨rfl, rfl⟩ := trodVars_none hV
  have k0 := xZ 0 24 v0 rfl rfl
  have k1 := xZ 1 26 v1 rfl rfl
  clear hA0 OV
  simp only [List.append_nil] at hW' cf hk
  have hbk : Rows.uptoBulkAll [d0, d1] ≤ 1048576 := of_decide_eq_true hk
  refine (walk k0 k1 h0 h1 hbk).mono fun e W' ⟨he, hg⟩ => ?_
  subst he
  refine ⟨_, rfl, yM (pa := p0 ++ (p1 ++ [])) (pv := []) hW' (fun _ _ _ => (trodAll_cons_mk (shut_bool Tryz.underlying4 _) trodAll_mk0)) (fun sp ym => ?_) (fun _ _ => rfl) hg⟩
  rw [Tryz.params3]
  have key : ∀ x ∈ p0 ++ p1, W.sameAt W' x := fun x hx => Nj hg (cf x (by simpa using hx))
  refine trodAll_cons_mk (WideElems.Trod_stays laid (by kernel_rfl) (of_decide_eq_true (by kernel_rfl)) h0 (fun x hx => key x (by simp [hx])) (fun x hx => ym x (by simp [hx])))
    (trodAll_cons_mk (WideElems.Trod_stays laid (by kernel_rfl) (of_decide_eq_true (by kernel_rfl)) h1 (fun x hx => key x (by simp [hx])) (fun x hx => ym x (by simp [hx]))) trodAll_mk0)

theorem lifted (os : Os) (started : os.Started) (H : Type) (enc : TypeId × Value → H) (F : Stop.Interp) :
    ReturnsInHanded {} Tryz.checked os 3 .any ((Rows.OpenSpec.upto Rows.augmConnectsSpec).pre6 enc Tryz.prog Tryz.f3 Rows.augmConnectsUptoRow.domain false) (((Rows.OpenSpec.upto Rows.augmConnectsSpec).at F).post enc Tryz.prog Tryz.f3 false true false false) := by
  refine returnsInHanded_of_cond (C := Tryz.checked) (s := Rows.OpenSpec.upto Rows.augmConnectsSpec) (k := Rows.uptoSmall) rfl own started (by kernel_rfl) Tryz.func3
    (OpenSpec.witness (enc := enc) (C := Tryz.checked) (s := Rows.OpenSpec.upto Rows.augmConnectsSpec) (k := Rows.uptoSmall) rfl false ⟨#[], #[.agg #[.int .i64 0, .slice Option.none 0 0], .slice Option.none 0 0], []⟩ 8 (by kernel_rfl) (by kernel_rfl) (by kernel_rfl)
      (x := ([.agg [.lit (.int .i64 0), .nil], .nil], [], [])) (by kernel_rfl) rfl (by kernel_rfl)) ?_
  intro W base args ds gs before xZ hW _ hk _
  exact KE H enc W base args ds gs before xZ hW hk

theorem gu : Rows.augmConnectsUptoRow.holds Tryz.pinned (Rows.OpenSpec.upto Rows.augmConnectsSpec) :=
  OpenClaim.holds_of_cond 3 Tryz.f3 rfl rfl rfl rfl rfl rfl rfl ⟨rfl, rfl, rfl, rfl, rfl⟩ rfl rfl rfl rfl rfl (by kernel_rfl) Tryz.func3 (by kernel_rfl)
    (of_decide_eq_true (by kernel_rfl)) (by unfold Func.isWrapper; first | (rw [if_pos (by decide +kernel)]; kernel_rfl) | (rw [if_neg (by decide +kernel)]; exact ⟨rfl, rfl⟩))
    (fun os started H enc _ F => lifted os started H enc F)

theorem proved : Rows.AugmConnectsUptoSaid :=
  gu
#print axioms proved
end Go.Proofs.YtlffogombmhmfaaGreat.augmConnects
