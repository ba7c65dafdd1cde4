/- An interpreter of the model's code that follows one order and is proved right for all: part 5. -/
import Derived.Test.YtomcmognemechaaGreatEd
import Derived.Shelf.Spec.SlicesInsert
import Derived.Shelf.Spec.SlicesInsertGrow
/- The engine: slices.Insert at ints. -/
namespace Go.Eng
open Go.Shelf
variable {P : Program} {ρ : Rho} {H : Heap} {nx : Nat} {w : World} {ren : Ren}

theorem ins_from {o : Oper} {g : FuncId} {z bytes : Nat} {s i v : Operand} (h : compileOp P [g] o = some (.ins z bytes s i v)) : z = 1 ∧ bytes = 8 ∧ ∃ d, o.op = .call d ∧ d.callee = .value (.func g) ∧ d.args.toList = [s, i, v] := by
  cases ho : o.op with
  | call d =>
    simp only [compileOp, ho] at h
    cases hd : d.callee with
    | value f =>
      rw [hd] at h
      cases f with
      | func g' =>
        simp only at h
        cases hg : isIn [g] g' with
        | true =>
          rw [hg] at h
          simp only [cond_true] at h
          have hgg : g' = g := by
            have := isIn_mem.1 hg
            simpa using this
          subst hgg
          split at h
          · rename_i s' i' v' t ts hargs _
            split at h
            · split at h
              · cases h
                exact ⟨rfl, rfl, d, rfl, hd, hargs⟩
              · cases h
            · cases h
          · cases h
        | false => rw [hg] at h; cases h
      | _ => simp only at h; cases h
    | builtin b =>
      exfalso
      rw [hd] at h
      simp only at h
      unfold compileBuiltin at h
      repeat' split at h
      all_goals first
        | (cases h; done)
        | (replace h := bif_some h; cases h; done)
    | invoke x name => rw [hd] at h; cases h
  | binOp op t x y b =>
    exfalso
    simp only [compileOp, ho] at h
    unfold compileBin at h
    repeat' split at h
    all_goals first
      | (cases h; done)
      | (replace h := bif_some h; cases h; done)
  | makeFunc f a b => exfalso; cases f <;> simp only [compileOp, ho] at h <;> cases h
  | _ =>
    exfalso
    simp only [compileOp, ho] at h
    repeat' split at h
    all_goals first
      | (cases h; done)
      | (obtain ⟨z, _, h⟩ := Option.map_eq_some_iff.1 (bif_some h); cases h; done)
      | (replace h := bif_some h; cases h; done)
      | (obtain ⟨z, _, h⟩ := Option.map_eq_some_iff.1 h; cases h; done)

theorem setCell_here {b o : Nat} {v : Value} {a : Array Value} {e : TypeId} {fr : Nat × Nat} (h : w.heap[b]? = some (.cells a e fr)) : (w.setCell ⟨b, o, none⟩ v).heap[b]? = some (.cells (a.setIfInBounds o v) e fr) := by
  show (w.heap.modify b _)[b]? = _
  rw [Array.getElem?_modify, if_pos rfl, h]
  rfl
theorem setCell_there {b c o : Nat} {v : Value} (h : c ≠ b) : (w.setCell ⟨b, o, none⟩ v).heap[c]? = w.heap[c]? := by
  show (w.heap.modify b _)[c]? = _
  rw [Array.getElem?_modify, if_neg (fun e => h e.symm)]

/-- a block is rewritten -/
structure Wrote (w w' : World) (b : Nat) (a a' : Array Value) (e : TypeId) : Prop where
  here : w'.heap[b]? = some (.cells a' e (0, 0))
  size : a'.size = a.size
  there : ∀ c, c ≠ b → w'.heap[c]? = w.heap[c]?
  heap : w'.heap.size = w.heap.size
  os : w'.os = w.os
  tape : w'.tape = w.tape
  output : w'.output = w.output

theorem setCells_wrote {b : Nat} {e : TypeId} : ∀ (vs : List Value) (o : Nat) (w : World) (a : Array Value), w.heap[b]? = some (.cells a e (0, 0)) → ∃ a', Wrote w (w.setCells b o vs) b a a' e ∧
    ∀ j, a'[j]? = if o ≤ j ∧ j < o + vs.length ∧ j < a.size then vs[j - o]? else a[j]? := by
  intro vs
  induction vs with
  | nil =>
    intro o w a h
    refine ⟨a, ⟨h, rfl, fun _ _ => rfl, rfl, rfl, rfl, rfl⟩, fun j => ?_⟩
    rw [if_neg (by simp; omega)]
  | cons v vs ih =>
    intro o w a h
    obtain ⟨a', h1, h2⟩ := ih (o + 1) (w.setCell ⟨b, o, none⟩ v) (a.setIfInBounds o v) (setCell_here h)
    refine ⟨a', ⟨h1.here, by rw [h1.size]; simp, fun c hc => (h1.there c hc).trans (setCell_there hc), by rw [World.setCells, h1.heap]; simp [World.setCell], h1.os, h1.tape, h1.output⟩, fun j => ?_⟩
    rw [h2]
    simp only [Array.size_setIfInBounds, List.length_cons]
    by_cases h3 : o + 1 ≤ j ∧ j < o + 1 + vs.length ∧ j < a.size
    · rw [if_pos h3, if_pos (by omega)]
      have : j - o = (j - (o + 1)) + 1 := by omega
      rw [this, List.getElem?_cons_succ]
    · rw [if_neg h3, Array.getElem?_setIfInBounds]
      by_cases h4 : o = j
      · subst h4
        by_cases h5 : o < a.size
        · rw [if_pos rfl, if_pos h5, if_pos (by omega)]
          simp
        · rw [if_pos rfl, if_neg h5, if_neg (by omega)]
          rw [Array.getElem?_eq_none (by omega)]
      · rw [if_neg h4, if_neg (by omega)]

/-- a slice's cells, as they lie there -/
theorem slice_cells {b o n p c' : Nat} {s : Ref} {cs old : List Value} (hH : HR ρ H nx w.heap) (hb : getP H (at_ b) = some (.cells cs)) (hs : ρ b = some s) (hold : take? (n * 1) (dropN cs o) = some old) (hn : n ≤ c') (hp : c' = 0 ∨ (p = s.sh + o ∧ p + c' * 1 ≤ s.size)) :
    ∃ a e olds, w.heap[s.blk]? = some (.cells a e (0, 0)) ∧ a.size = s.size ∧ VRs ρ old olds ∧ old.length = n ∧ ∀ j u, olds[j]? = some u → a[p + j]? = some u := by
  obtain ⟨s', hs', a, e, ha, hsz, hcell⟩ := hH.blk b _ hb
  rw [hs] at hs'; cases hs'
  obtain ⟨t1, t2⟩ := take?_get hold
  rw [Nat.mul_one] at t1 t2
  have key : ∀ j v, old[j]? = some v → ∃ u, a[p + j]? = some u ∧ VR ρ v u := by
    intro j v hv
    have hj : j < n := by rw [← t1]; exact (List.getElem?_eq_some_iff.1 hv).1
    rw [t2 j hj, dropN_eq, List.getElem?_drop] at hv
    obtain ⟨u, hu, hr⟩ := hcell (o + j) v hv
    refine ⟨u, ?_, hr⟩
    rcases hp with h0 | ⟨h1, _⟩
    · omega
    · rw [h1, Nat.add_assoc]; exact hu
  have hlen : ((a.toList.drop p).take n).length = n := by
    rcases Nat.eq_zero_or_pos n with h0 | h0
    · rw [h0]; simp
    · rcases hp with h1 | ⟨_, h2⟩
      · omega
      · simp; omega
  refine ⟨a, e, (a.toList.drop p).take n, ha, hsz, VRs.of_get (by rw [hlen, t1]) fun j v hv => ?_, t1, fun j u hu => ?_⟩
  · obtain ⟨u, hu, hr⟩ := key j v hv
    have hj : j < n := by rw [← t1]; exact (List.getElem?_eq_some_iff.1 hv).1
    refine ⟨u, ?_, hr⟩
    rw [List.getElem?_take, if_pos hj, List.getElem?_drop]
    simpa using hu
  · rw [List.getElem?_take] at hu
    split at hu
    · rw [List.getElem?_drop] at hu
      simpa using hu
    · cases hu

theorem cell_at {b j : Nat} {a : Array Value} {e : TypeId} {v : Value} (h : w.heap[b]? = some (.cells a e (0, 0))) (hj : a[j]? = some v) : w.cell? ⟨b, j, none⟩ = some v := by
  unfold World.cell?
  rw [h]
  exact hj
theorem not_frozen {b j : Nat} {a : Array Value} {e : TypeId} (h : w.heap[b]? = some (.cells a e (0, 0))) : w.frozen? ⟨b, j, none⟩ = false := by
  unfold World.frozen?
  rw [h]
  simp
theorem shape_at {b : Nat} {a : Array Value} {e : TypeId} (h : w.heap[b]? = some (.cells a e (0, 0))) : w.shape? b = some (e, a.size) := by
  unfold World.shape?
  rw [h]

/-- what stands there when it has been put in -/
theorem ins_list {old new : List Value} {olds news : List Value} {i q : Nat} {v : Value} (ho : VRs ρ old olds) (hn : VRs ρ new news) (hi : i ≤ old.length) (h : (old.take i ++ (new ++ old.drop i))[q]? = some v) :
    (q < i ∧ ∃ u, olds[q]? = some u ∧ VR ρ v u) ∨ (i ≤ q ∧ q < i + new.length ∧ ∃ u, news[q - i]? = some u ∧ VR ρ v u) ∨ (i + new.length ≤ q ∧ q < old.length + new.length ∧ ∃ u, olds[q - new.length]? = some u ∧ VR ρ v u) := by
  have ht : (old.take i).length = i := by rw [List.length_take]; omega
  rw [List.getElem?_append] at h
  split at h
  · rename_i h1
    rw [ht] at h1
    rw [List.getElem?_take, if_pos h1] at h
    exact .inl ⟨h1, ho.get h⟩
  · rename_i h1
    rw [ht] at h1
    rw [ht, List.getElem?_append] at h
    split at h
    · rename_i h2
      exact .inr (.inl ⟨by omega, by omega, hn.get h⟩)
    · rename_i h2
      rw [List.getElem?_drop] at h
      have e : i + (q - i - new.length) = q - new.length := by omega
      rw [e] at h
      have := (List.getElem?_eq_some_iff.1 h).1
      exact .inr (.inr ⟨by omega, by omega, ho.get h⟩)
end Go.Eng
/- The engine: slices.Insert at ints: its contract. -/
namespace Go.Eng
open Go.Shelf Go.Proofs
variable {P : Program} {ρ : Rho} {H : Heap} {nx : Nat} {w w' : World} {ren : Ren}

theorem went_inplace {b p : Nat} {s : Ref} {cs fin : List Value} {a a' : Array Value} {e : TypeId} (hH : HR ρ H nx w.heap) (hb : getP H (at_ b) = some (.cells cs)) (hs : ρ b = some s) (hw : Wrote w w' s.blk a a' e) (hsz : a.size = s.size)
    (hfin : ∀ (j : Nat) (v : Value), fin[j]? = some v → ∃ u, a'[p + j]? = some u ∧ VR ρ v u) : Went ρ H nx w (ρ.with nx ⟨s.blk, p, s.size⟩) (insP (at_ nx) (insP (at_ b) H none) (some (.cells fin))) (nx + 1) w' := by
  have hown : Own ρ H s.blk := ⟨b, _, s, hb, rfl, hs, rfl⟩
  have ext := hH.ext_with ⟨s.blk, p, s.size⟩
  refine ⟨?_, ⟨ext, fun j hj => ?_, (Ros.put _ _ _).trans (.forget _ _), fun j hj hn => ?_, by rw [hw.heap]; exact Nat.le_refl _, hw.os, hw.tape, hw.output⟩, Nat.le_succ _, fun c hc => Rho.with_ne _ _ (by omega)⟩
  · refine (hH.forget b).make (r := ⟨s.blk, p, s.size⟩) (fun b1 y s1 hb1 hs1 => ?_) ⟨a', e, hw.here, by rw [hw.size, hsz], fun j v hj => ?_⟩
    · have hne : b1 ≠ b := by
        intro e'; subst e'
        rw [getP_insP] at hb1; cases hb1
      rw [getP_insP_ne _ _ _ _ (fun e' => hne (at_inj e'))] at hb1
      have hblk : s1.blk ≠ s.blk := fun e' => hne (hH.inj b b1 _ y s s1 hb hb1 rfl hs hs1 e'.symm).symm
      exact ⟨hw.there _ hblk, hblk⟩
    · obtain ⟨u, h1, h2⟩ := hfin j v hj
      exact ⟨u, h1, h2.mono ext⟩
  · rcases Own.of_make hj with rfl | ho
    · exact .inl hown
    · exact .inl ho.of_forget
  · exact hw.there j fun e' => hn (e' ▸ hown)

theorem went_new {b : Nat} {fin : List Value} {a' : Array Value} {e : TypeId} (hH : HR ρ H nx w.heap) (here : w'.heap[w.heap.size]? = some (.cells a' e (0, 0))) (old : ∀ c, c < w.heap.size → w'.heap[c]? = w.heap[c]?) (hsz : w.heap.size ≤ w'.heap.size)
    (hos : w'.os = w.os) (ht : w'.tape = w.tape) (hout : w'.output = w.output) (hfin : ∀ (j : Nat) (v : Value), fin[j]? = some v → ∃ u, a'[j]? = some u ∧ VR ρ v u) :
    Went ρ H nx w (ρ.with nx ⟨w.heap.size, 0, a'.size⟩) (insP (at_ nx) (insP (at_ b) H none) (some (.cells fin))) (nx + 1) w' := by
  have ext := hH.ext_with ⟨w.heap.size, 0, a'.size⟩
  have hlt : ∀ b1 y s1, getP (insP (at_ b) H none) (at_ b1) = some y → ρ b1 = some s1 → s1.blk < w.heap.size := by
    intro b1 y s1 hb1 hs1
    obtain ⟨s2, q1, q2⟩ := (hH.forget b).blk b1 y hb1
    rw [hs1] at q1
    cases q1
    exact q2.lt
  refine ⟨?_, ⟨ext, fun j hj => ?_, (Ros.put _ _ _).trans (.forget _ _), fun j hj hn => old j hj, hsz, hos, ht, hout⟩, Nat.le_succ _, fun c hc => Rho.with_ne _ _ (by omega)⟩
  · refine (hH.forget b).make (r := ⟨w.heap.size, 0, a'.size⟩) (fun b1 y s1 hb1 hs1 => ?_) ⟨a', e, here, rfl, fun j v hj => ?_⟩
    · have := hlt b1 y s1 hb1 hs1
      exact ⟨old _ this, by show s1.blk ≠ w.heap.size; omega⟩
    · obtain ⟨u, h1, h2⟩ := hfin j v hj
      exact ⟨u, by rw [Nat.zero_add]; exact h1, h2.mono ext⟩
  · rcases Own.of_make hj with rfl | ho
    · exact .inr (Nat.le_refl _)
    · exact .inl ho.of_forget

theorem ins_ok {g : FuncId} (L : Lays2.n21 P ren) (hg : ren.f 21 = g) (hent : Entered P g) : InsOk P [g] := by
  intro o z bytes s i v hc ρ H nx w sv iv vv c hs hi hv hH k r h
  obtain ⟨rfl, rfl, d, ho, hd, hargs⟩ := ins_from hc
  obtain ⟨ii, rfl, h1⟩ := onI64_some h
  obtain ⟨b, off, z1, len, cp, rfl, h2⟩ := onSl_some h1
  obtain ⟨b2, o2, z2, m, c2, rfl, h3⟩ := onSl_some h2
  unfold insV at h3
  obtain ⟨hcond, h4⟩ := cond_some h3
  simp only [Bool.and_eq_true, Bool.not_eq_true'] at hcond
  obtain ⟨hz1, hz2, _, hm, hil, hbb⟩ := hcond
  have hz1' := Nat.eq_of_beq_eq_true hz1
  have hz2' := Nat.eq_of_beq_eq_true hz2
  subst hz1'; subst hz2'
  have hm0 : 0 < m := by simpa [Nat.blt_eq] using hm
  have hile : ii ≤ len := Nat.le_of_ble_eq_true hil
  have hne : b ≠ b2 := Nat.ne_of_beq_eq_false hbb
  obtain ⟨cs, hcs, h5⟩ := cellsK_some h4
  obtain ⟨cs2, hcs2, h6⟩ := cellsK_some h5
  obtain ⟨old, hold, h7⟩ := bd_eq h6
  obtain ⟨new, hnew, h8⟩ := bd_eq h7
  obtain ⟨front, hfront, h9⟩ := bd_eq h8
  obtain ⟨hones, h10⟩ := cond_some h9
  simp only [Bool.and_eq_true] at hones
  rw [setP_eq] at h10
  obtain ⟨hbig, hsm, hk⟩ := appNew_some h10
  have hi' : c.eval i = .int .i64 (ii : Int) := hi.int_inv
  generalize hsu : c.eval s = su at hs
  generalize hvu : c.eval v = vu at hv
  cases hs with
  | sc h => simp [scalar] at h
  | @sl _ _ _ _ _ p c' rs hrs hl hsc he hp =>
  cases hv with
  | sc h => simp [scalar] at h
  | @sl _ _ _ _ _ p2 c2' r2 hr2 hl2 hsc2 he2 hp2 =>
  obtain ⟨a, e, olds, ha, hsz, hro, hol, hoc⟩ := slice_cells hH hcs hrs hold hl.1 hp
  obtain ⟨a2, e2, news, ha2, hsz2, hrn, hnl, hnc⟩ := slice_cells hH hcs2 hr2 hnew hl2.1 hp2
  have hblk : r2.blk ≠ rs.blk := fun e' => hne (hH.inj b b2 _ _ rs r2 hcs hcs2 rfl hrs hr2 e'.symm)
  have hf1 : front = old.take ii := by
    have := take?_eq _ _ _ (show take? (ii * 1) old = some front from hfront)
    rw [Nat.mul_one] at this
    exact this.1
  have hd1 : dropN old (Nat.mul ii 1) = old.drop ii := by rw [dropN_eq]; congr 1; exact Nat.mul_one ii
  rw [hf1, hd1] at hk
  have holds : olds.length = len := by rw [hro.length, hol]
  have hnews : news.length = m := by rw [hrn.length, hnl]
  have h1c := hro.one hones.1
  have h1v := hrn.one hones.2
  have hcx : ∀ j u, olds[j]? = some u → w.cell? ⟨rs.blk, p + j, none⟩ = some u := fun j u hj => cell_at ha (hoc j u hj)
  have hvx : ∀ j u, news[j]? = some u → w.cell? ⟨r2.blk, p2 + j, none⟩ = some u := fun j u hj => cell_at ha2 (hnc j u hj)
  have hbig' : (len + m) * 8 ≤ 140737488355328 := by unfold small at hbig; omega
  have hrun : (execOp c.eval o).run P w = .ok (.enter g #[.slice (some ⟨rs.blk, p, none⟩) len c', .int .i64 (ii : Int), .slice (some ⟨r2.blk, p2, none⟩) m c2']) w := by
    have hcall : (execOp c.eval o).run P w = (callFunc g #[c.eval s, c.eval i, c.eval v]).run P w := by
      have hfv : c.eval (.func g) = .func (.func g) #[] #[] := rfl
      simp only [execOp, ho, resolve, hd, hfv, Deferred.ofValue, Sem.run_bind, Sem.run_pure, Result.andThen_ok, invoke]
      congr 2
      apply Array.ext'
      simp [hargs]
    rw [hcall, hent.run, hsu, hi', hvu]
  refine ⟨g, _, hrun, ?_⟩
  have hlenfin : ∀ (q : Nat) (v : Value), (old.take ii ++ (new ++ old.drop ii))[q]? = some v → _ := fun q v hq => ins_list (q := q) hro hrn (by omega) hq
  -- in place
  have hroomP : len + m ≤ c' → p = rs.sh + off ∧ p + c' ≤ rs.size := by
    intro hr
    rcases hp with h0 | ⟨q1, q2⟩
    · omega
    · exact ⟨q1, by omega⟩
  have finIn : ∀ (w1 : World) (a' : Array Value), len + m ≤ c' → Wrote w w1 rs.blk a a' e → (∀ (q : Nat) (v : Value), (old.take ii ++ (new ++ old.drop ii))[q]? = some v → ∃ u, a'[p + q]? = some u ∧ VR ρ v u) →
      ∃ x H' nx' u ρ', k x H' nx' = some r ∧ Ending.returned (.slice (some ⟨rs.blk, p, none⟩) (len + m) c') = .returned u ∧ VR ρ' x u ∧ Went ρ H nx w ρ' H' nx' w1 := by
    intro w1 a' hr hw hf
    exact ⟨_, _, _, _, _, hk, rfl, slTo_VR (rf := ⟨rs.blk, p, rs.size⟩) ⟨hr, hl.2⟩ ⟨rfl, by show p + c' * 1 ≤ rs.size; have := (hroomP hr).2; omega⟩, went_inplace hH hcs hrs hw hsz hf⟩
  -- in a new row
  have finNew : ∀ (w1 : World) (a' : Array Value) (cap : Nat), len + m ≤ cap → cap ≤ capMax → a'.size = cap → w1.heap[w.heap.size]? = some (.cells a' (ren.t 3) (0, 0)) → (∀ c, c < w.heap.size → w1.heap[c]? = w.heap[c]?) → w.heap.size ≤ w1.heap.size → w1.os = w.os → w1.tape = w.tape → w1.output = w.output →
      (∀ (q : Nat) (v : Value), (old.take ii ++ (new ++ old.drop ii))[q]? = some v → ∃ u, a'[q]? = some u ∧ VR ρ v u) →
      ∃ x H' nx' u ρ', k x H' nx' = some r ∧ Ending.returned (.slice (some ⟨w.heap.size, 0, none⟩) (len + m) cap) = .returned u ∧ VR ρ' x u ∧ Went ρ H nx w ρ' H' nx' w1 := by
    intro w1 a' cap hr hcm hsz' here hold' hle hos ht hout hf
    exact ⟨_, _, _, _, _, hk, rfl, slTo_VR (rf := ⟨w.heap.size, 0, a'.size⟩) ⟨hr, hcm⟩ ⟨rfl, by show 0 + cap * 1 ≤ a'.size; omega⟩, went_new hH here hold' hle hos ht hout hf⟩
  have hcapG : grownCap w (len + m) c' (ren.t 3) ≤ capMax := grownCap_le_maxLen w (len + m) c' (ren.t 3) (by unfold maxLen; omega)
  have hcapN : len + m ≤ grownCap w (len + m) c' (ren.t 3) := grownCap_ge w (len + m) c' (ren.t 3)
  subst hg
  by_cases hroom : len + m ≤ c'
  · obtain ⟨hp1, hpc⟩ := hroomP hroom
    have hsp : ∀ j, j < len + m → (w.cell? ⟨rs.blk, p + j, none⟩).isSome = true := by
      intro j hj
      rw [cell_at ha (Array.getElem?_eq_getElem (by omega))]
      rfl
    by_cases hin : ii < len
    · refine (Any2.slices_Insert_int_shift L rs.blk p len c' ii r2.blk p2 m c2' olds news w hin hm0 hroom hl.2 hblk holds hnews hcx hsp (fun j _ => not_frozen ha) hvx h1c h1v e2 e a2.size a.size (shape_at ha2) (shape_at ha) (by omega) (not_frozen ha2) (not_frozen ha2)).mono ?_
      rintro e' w1 ⟨rfl, rfl⟩
      obtain ⟨a', q1, q2⟩ := setCells_wrote (olds.drop ii) (p + (ii + m)) w.drew a ha
      obtain ⟨a'', q3, q4⟩ := setCells_wrote news (p + ii) (w.drew.setCells rs.blk (p + (ii + m)) (olds.drop ii)) a' q1.here
      refine finIn _ a'' hroom ⟨q3.here, by rw [q3.size, q1.size], fun c hc => (q3.there c hc).trans (q1.there c hc), q3.heap.trans q1.heap, q3.os.trans q1.os, q3.tape.trans q1.tape, q3.output.trans q1.output⟩ fun q x hq => ?_
      rcases hlenfin q x hq with ⟨g1, u, g2, g3⟩ | ⟨g1, g2, u, g3, g4⟩ | ⟨g1, g2, u, g3, g4⟩
      · refine ⟨u, ?_, g3⟩
        rw [q4, if_neg (by omega), q2, if_neg (by omega)]
        exact hoc q u g2
      · refine ⟨u, ?_, g4⟩
        rw [hnl] at g2
        rw [q4, if_pos (by rw [q1.size]; omega)]
        have : p + q - (p + ii) = q - ii := by omega
        rw [this]
        exact g3
      · refine ⟨u, ?_, g4⟩
        rw [hnl] at g1 g2 g3
        rw [q4, if_neg (by omega), q2, if_pos (by rw [List.length_drop]; omega), List.getElem?_drop]
        have : ii + (p + q - (p + (ii + m))) = q - m := by omega
        rw [this]
        exact g3
    · have hie : ii = len := by omega
      subst hie
      refine (Any2.slices_Insert_int_end_room L rs.blk p ii c' r2.blk p2 m c2' news w hm0 hroom hl.2 hnews (fun j hj => by rw [Nat.add_assoc]; exact hsp _ (by omega)) (fun j _ => not_frozen ha) hvx h1v).mono ?_
      rintro e' w1 ⟨rfl, rfl⟩
      obtain ⟨a', q1, q2⟩ := setCells_wrote news (p + ii) w a ha
      refine finIn _ a' hroom q1 fun q x hq => ?_
      rcases hlenfin q x hq with ⟨g1, u, g2, g3⟩ | ⟨g1, g2, u, g3, g4⟩ | ⟨g1, g2, u, g3, g4⟩
      · refine ⟨u, ?_, g3⟩
        rw [q2, if_neg (by omega)]
        exact hoc q u g2
      · refine ⟨u, ?_, g4⟩
        rw [hnl] at g2
        rw [q2, if_pos (by omega)]
        have : p + q - (p + ii) = q - ii := by omega
        rw [this]
        exact g3
      · omega
  · by_cases hin : ii < len
    · refine (Any2.slices_Insert_int_grow L rs.blk p len c' ii r2.blk p2 m c2' olds news w hin hm0 hl.1 (by omega) hbig' holds hnews hcx hvx h1c h1v).mono ?_
      rintro e' w1 ⟨rfl, rfl⟩
      generalize hcapE : grownCap w (len + m) c' (ren.t 3) = cap at *
      generalize hrow : (olds.take ii).toArray ++ Builtin.zeroCells (Value.int .i64 0).cells (len + m - ii) ++ Builtin.zeroCells (Value.int .i64 0).cells (cap - (len + m)) = a0
      have hlt : (olds.take ii).length = ii := by rw [List.length_take]; omega
      have hz0 : ∀ n, (Builtin.zeroCells (Value.int .i64 0).cells n).size = n := fun n => by rw [size_zeroCells]; show n * 1 = n; omega
      have hs0 : a0.size = cap := by
        rw [← hrow]
        simp only [Array.size_append, List.size_toArray, hz0, hlt]
        omega
      have h0 : (w.alloc (.cells a0 (ren.t 3))).heap[w.heap.size]? = some (.cells a0 (ren.t 3) (0, 0)) := by
        show (w.heap.push _)[w.heap.size]? = _
        simp
      obtain ⟨a', q1, q2⟩ := setCells_wrote news ii (w.alloc (.cells a0 (ren.t 3))).drew a0 h0
      obtain ⟨a'', q3, q4⟩ := setCells_wrote (olds.drop ii) (ii + m) ((w.alloc (.cells a0 (ren.t 3))).drew.setCells w.heap.size ii news).drew a' q1.here
      refine finNew _ a'' cap hcapN hcapG (by rw [q3.size, q1.size, hs0]) q3.here (fun c hc => ?_) ?_ (q3.os.trans q1.os) (q3.tape.trans q1.tape) (q3.output.trans q1.output) fun q x hq => ?_
      · have hcn : c ≠ w.heap.size := by omega
        refine (q3.there c hcn).trans ((q1.there c hcn).trans ?_)
        show (w.heap.push _)[c]? = w.heap[c]?
        rw [Array.getElem?_push, if_neg hcn]
      · rw [q3.heap]
        show _ ≤ ((w.alloc (.cells a0 (ren.t 3))).drew.setCells w.heap.size ii news).heap.size
        rw [q1.heap]
        show _ ≤ (w.heap.push _).size
        simp
      · rcases hlenfin q x hq with ⟨g1, u, g2, g3⟩ | ⟨g1, g2, u, g3, g4⟩ | ⟨g1, g2, u, g3, g4⟩
        · refine ⟨u, ?_, g3⟩
          rw [q4, if_neg (by omega), q2, if_neg (by omega), ← hrow]
          rw [Array.append_assoc, Array.getElem?_append_left (by simp [hlt]; omega)]
          simp only [List.getElem?_toArray, List.getElem?_take, if_pos g1]
          exact g2
        · refine ⟨u, ?_, g4⟩
          rw [hnl] at g2
          rw [q4, if_neg (by omega), q2, if_pos (by omega)]
          exact g3
        · refine ⟨u, ?_, g4⟩
          rw [hnl] at g1 g2 g3
          rw [q4, if_pos (by rw [q1.size, List.length_drop]; omega), List.getElem?_drop]
          have : ii + (q - (ii + m)) = q - m := by omega
          rw [this]
          exact g3
    · have hie : ii = len := by omega
      subst hie
      refine (Any2.slices_Insert_int_end_grow L (some ⟨rs.blk, p, none⟩) ii c' r2.blk p2 m c2' olds news w hm0 hl.1 (by omega) hbig' holds hnews (fun h => by cases h) (fun a ha j v hj => by cases ha; rw [Addr.add_lit]; exact hcx j v hj) hvx h1v).mono ?_
      rintro e' w1 ⟨rfl, rfl⟩
      generalize hcapE : grownCap w (ii + m) c' (ren.t 3) = cap at *
      have hz0 : ∀ n, (Builtin.zeroCells (Value.int .i64 0).cells n).size = n := fun n => by rw [size_zeroCells]; show n * 1 = n; omega
      refine finNew _ ((olds ++ news).toArray ++ Builtin.zeroCells (Value.int .i64 0).cells (cap - (ii + m))) cap hcapN hcapG ?_ ?_ (fun c hc => ?_) ?_ rfl rfl rfl fun q x hq => ?_
      · simp only [Array.size_append, List.size_toArray, List.length_append, hz0, holds, hnews]
        omega
      · show (w.heap.push _)[w.heap.size]? = _
        simp
      · show (w.heap.push _)[c]? = w.heap[c]?
        rw [Array.getElem?_push, if_neg (by omega)]
      · show _ ≤ (w.heap.push _).size
        simp
      · have hlt : q < (olds ++ news).length := by
          have := (List.getElem?_eq_some_iff.1 hq).1
          simp only [List.length_append, List.length_take, List.length_drop] at this
          rw [List.length_append, holds, hnews]
          omega
        rw [Array.getElem?_append_left (by simpa using hlt)]
        simp only [List.getElem?_toArray]
        rcases hlenfin q x hq with ⟨g1, u, g2, g3⟩ | ⟨g1, g2, u, g3, g4⟩ | ⟨g1, g2, u, g3, g4⟩
        · exact ⟨u, by rw [List.getElem?_append_left (by omega)]; exact g2, g3⟩
        · exact ⟨u, by rw [List.getElem?_append_right (by omega), holds]; exact g3, g4⟩
        · omega
end Go.Eng
