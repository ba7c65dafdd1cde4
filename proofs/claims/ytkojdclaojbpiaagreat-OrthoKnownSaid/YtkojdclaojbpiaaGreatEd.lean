/- An interpreter of the model's code that follows one order and is proved right for all: part 4. -/
import Derived.Test.YtkojdclaojbpiaaGreatEc
import Derived.Recover
/- The engine: regions whose order is drawn: one operation more. -/
namespace Go.Eng
variable {X : Cx} {S : Nat → Prop} {R post pre : List Rec} {r : Rec} {ρ0 ρ : Rho} {w0 w : World} {c : Act}

def More (S : Nat → Prop) (r : Rec) : Nat → Prop := fun i => S i ∨ i = r.i

theorem Next.uniq (h : Next X R S post pre r) {q : Rec} (hq : q ∈ R) (e : q.i = r.i) : q = r := chain_uniq h.ch q hq r h.mem e

theorem Next.post_ok (h : Next X R S post pre r) {q : Rec} (hq : q ∈ post) : ∃ pq, X.Ok pq q ∧ r ∈ pq ∧ (∀ p ∈ pre, p ∈ pq) ∧ X.At pq q.σ q.D q.H q.nx ∧ X.Ch pq := by
  have hch := h.ch
  rw [h.eq] at hch
  exact chain_post hch q hq

theorem Next.post_ne (h : Next X R S post pre r) {q : Rec} (hq : q ∈ post) : q.i ≠ r.i := by
  obtain ⟨pq, k1, k2, _⟩ := h.post_ok hq
  exact fun e => k1.new r k2 e.symm

theorem Next.le (hu : UpRun X.rn) (h : Next X R S post pre r) : r.nx ≤ r.nx' := rec_up hu h.ok

/-- the numbers that an operation gives out are its own -/
theorem fresh_nums (hst : Start X ρ0 w0) (inv : SInv X R ρ0 w0 S ρ c w) (h : Next X R S post pre r) {b : Nat} (h1 : r.nx ≤ b) (h2 : b < r.nx') : ρ b = none := by
  cases hb : ρ b with
  | none => rfl
  | some rr =>
    exfalso
    obtain ⟨k1, k2⟩ := chain_le hst.up h.chp h.at
    rcases inv.dom b rr hb with h3 | ⟨q, hq, hS, h3, h4⟩
    · omega
    · have hq' := hq
      rw [h.eq] at hq'
      rcases List.mem_append.1 hq' with hq1 | hq1
      · obtain ⟨pq, g1, g2, _, g4, g5⟩ := h.post_ok hq1
        have := ((chain_le hst.up g5 g4).2 r g2).1
        omega
      · rcases List.mem_cons.1 hq1 with rfl | hq2
        · exact h.not hS
        · have := (k2 q hq2).1
          omega

theorem tm_step {ρ' : Rho} {c2 : Act} {u : Value} (inv : SInv X R ρ0 w0 S ρ c w) (h : Next X R S post pre r) (he : Ext ρ ρ') (hv : VR ρ' r.v u) (hl : VLow r.nx' r.v) (hc : c2.tmps = c.tmps) :
    X.n ≤ (c2.put r.o.dst u).tmps.size ∧ (∀ q ∈ R, More S r q.i → ∀ t, q.o.dst = some t → VR ρ' q.v ((c2.put r.o.dst u).tmps.getD t undef)) ∧ (∀ q ∈ R, More S r q.i → VLow q.nx' q.v) ∧
    (∀ t, isIn X.kept t = true → (∀ q ∈ R, More S r q.i → q.o.dst ≠ some t) → VR ρ' (X.σ0 t) ((c2.put r.o.dst u).tmps.getD t undef)) := by
  have hsz : X.n ≤ c2.tmps.size := by rw [hc]; exact inv.size
  have key : ∀ t, r.o.dst ≠ some t → (c2.put r.o.dst u).tmps.getD t undef = c.tmps.getD t undef := by
    intro t ht
    rw [← hc]
    cases hd : r.o.dst with
    | none => rfl
    | some d =>
      rw [put_getD (Nat.lt_of_lt_of_le (h.ok.dst d hd) hsz), if_neg (fun e => ht (by rw [hd, e]))]
  refine ⟨?_, fun q hq hS t hd => ?_, fun q hq hS => ?_, fun t ht hn => ?_⟩
  · cases hd : r.o.dst with
    | none => exact hsz
    | some d => show X.n ≤ (c2.tmps.setIfInBounds d u).size; simpa using hsz
  · by_cases e : q.i = r.i
    · have := h.uniq hq e
      subst this
      rw [hd, put_getD (Nat.lt_of_lt_of_le (h.ok.dst t hd) hsz), if_pos rfl]
      exact hv
    · rw [key t fun hd' => e ?_]
      · exact (inv.val q hq (hS.resolve_right e) t hd).mono he
      · obtain ⟨_, _, _, k1, _⟩ := chain_split h.ch hq
        exact one_at h.one k1.op h.ok.op hd hd'
  · by_cases e : q.i = r.i
    · have := h.uniq hq e
      subst this
      exact hl
    · exact inv.vlow q hq (hS.resolve_right e)
  · rw [key t (hn r h.mem (.inr rfl))]
    exact (inv.kep t ht fun q hq hS => hn q hq (.inl hS)).mono he

/-- the world is as it was, but for new blocks behind -/
structure Still (w w' : World) : Prop where
  heap : ∀ k, k < w.heap.size → w'.heap[k]? = w.heap[k]?
  size : w.heap.size ≤ w'.heap.size
  os : w'.os = w.os
  tape : w'.tape = w.tape
  output : w'.output = w.output

theorem Still.refl (w : World) : Still w w := ⟨fun _ _ => rfl, Nat.le_refl _, rfl, rfl, rfl⟩

theorem inv_quiet {w' : World} {c2 : Act} {u : Value} (inv : SInv X R ρ0 w0 S ρ c w) (h : Next X R S post pre r) (hw : Still w w') (hv : VR ρ r.v u) (hl : VLow r.nx' r.v) (hc : c2.tmps = c.tmps) (hcd : c2.defers = c.defers)
    (hB : ∀ b k, Blocks (More S r) X.H0 R b k → Blocks S X.H0 R b k) (hhl : r.hv → ∀ b k, getP r.H' (at_ b) = some k → BLow r.nx' b k) (hml : r.mk' → r.nx < r.nx' → False)
    (hdat : ∃ D, Dat (More S r) X.D0 R D ∧ DfRs ρ D c.defers) (hdl : r.hv → DLow r.nx' r.D') : SInv X R ρ0 w0 (More S r) ρ (c2.put r.o.dst u) w' := by
  obtain ⟨t1, t2, t3, t4⟩ := tm_step inv h (Ext.refl ρ) hv hl hc
  refine ⟨fun b rr hb => ?_, t1, t2, t3, t4, fun b k hb => ?_, fun b b' k k' rr rr' hb hb' => inv.inj b b' k k' rr rr' (hB _ _ hb) (hB _ _ hb'), fun q hq hS hh => ?_, fun q hq hS hm hlt => ?_, ?_, fun q hq hS hh => ?_, inv.ext, inv.low,
    fun b k rr hb => inv.own b k rr (hB _ _ hb), fun k hk hn => ?_, Nat.le_trans inv.wsize hw.size, hw.os.trans inv.os, hw.tape.trans inv.tape, hw.output.trans inv.output⟩
  · rcases inv.dom b rr hb with h1 | ⟨q, hq, hS, g⟩
    · exact .inl h1
    · exact .inr ⟨q, hq, .inl hS, g⟩
  · obtain ⟨rr, h1, h2⟩ := inv.blk b k (hB _ _ hb)
    exact ⟨rr, h1, h2.of_same (hw.heap _ h2.lt)⟩
  · by_cases e : q.i = r.i
    · have := h.uniq hq e
      subst this
      exact hhl hh
    · exact inv.hlow q hq (hS.resolve_right e) hh
  · by_cases e : q.i = r.i
    · have := h.uniq hq e
      subst this
      exact (hml hm hlt).elim
    · exact inv.mlow q hq (hS.resolve_right e) hm hlt
  · have : (c2.put r.o.dst u).defers = c.defers := by rw [← hcd]; cases r.o.dst <;> rfl
    rw [this]
    exact hdat
  · by_cases e : q.i = r.i
    · have := h.uniq hq e
      subst this
      exact hdl hh
    · exact inv.dlow q hq (hS.resolve_right e) hh
  · rw [hw.heap k (Nat.lt_of_lt_of_le hk inv.wsize)]
    exact inv.frame k hk hn

theorem inv_make {ρ' : Rho} {w' : World} {c2 : Act} {u : Value} {rr : Ref} {blk : Blk} (hst : Start X ρ0 w0) (inv : SInv X R ρ0 w0 S ρ c w) (h : Next X R S post pre r) (hw : Still w w') (hm : r.mk') (hnx : r.nx' = r.nx + 1) (hH : getP r.H' (at_ r.nx) = some blk)
    (hρ : ∀ b, b ≠ r.nx → ρ' b = ρ b) (hρn : ρ' r.nx = some rr) (hbr : BR ρ' w'.heap rr blk) (hnew : w.heap.size ≤ rr.blk) (hbl : BLow r.nx' r.nx blk) (hv : VR ρ' r.v u) (hl : VLow r.nx' r.v) (hc : c2.tmps = c.tmps) (hcd : c2.defers = c.defers) :
    SInv X R ρ0 w0 (More S r) ρ' (c2.put r.o.dst u) w' := by
  have hnh : ¬ r.hv := by
    intro hh
    unfold Rec.hv at hh
    unfold Rec.mk' at hm
    cases hk : kdOf r.a <;> rw [hk] at hh hm <;> simp [isHeavy, isMake] at hh hm
  have hno : ρ r.nx = none := fresh_nums hst inv h (Nat.le_refl _) (by omega)
  have hext : Ext ρ ρ' := by
    intro b s hb
    rw [hρ b (fun e => by rw [e, hno] at hb; cases hb)]
    exact hb
  have hB : ∀ b k, Blocks (More S r) X.H0 R b k → (Blocks S X.H0 R b k ∧ b ≠ r.nx) ∨ (b = r.nx ∧ k = blk) := by
    intro b k hb
    rcases blocks_more hm (fun i => Iff.rfl) (fun q hq e => h.uniq hq e) hb with h1 | ⟨_, h2, h3⟩
    · refine .inl ⟨h1, fun e => ?_⟩
      obtain ⟨s, g, _⟩ := inv.blk b k h1
      rw [e, hno] at g
      cases g
    · refine .inr ⟨h2, ?_⟩
      rw [h2, hH] at h3
      exact (Option.some.inj h3).symm
  obtain ⟨t1, t2, t3, t4⟩ := tm_step inv h hext hv hl hc
  refine ⟨fun b s hb => ?_, t1, t2, t3, t4, fun b k hb => ?_, fun b b' k k' s s' hb hb' hs hs' e => ?_, fun q hq hS hh => ?_, fun q hq hS hm hlt => ?_, ?_, fun q hq hS hh => ?_, inv.ext.trans hext, fun b hb => ?_,
    fun b k s hb hs => ?_, fun k hk hn => ?_, Nat.le_trans inv.wsize hw.size, hw.os.trans inv.os, hw.tape.trans inv.tape, hw.output.trans inv.output⟩
  · by_cases e : b = r.nx
    · exact .inr ⟨r, h.mem, .inr rfl, by omega, by omega⟩
    · rw [hρ b e] at hb
      rcases inv.dom b s hb with h1 | ⟨q, hq, hS, g⟩
      · exact .inl h1
      · exact .inr ⟨q, hq, .inl hS, g⟩
  · rcases hB b k hb with ⟨h1, h2⟩ | ⟨h1, h2⟩
    · obtain ⟨s, g1, g2⟩ := inv.blk b k h1
      exact ⟨s, hext _ _ g1, (g2.mono hext).of_same (hw.heap _ g2.lt)⟩
    · rw [h1, h2]
      exact ⟨rr, hρn, hbr⟩
  · rcases hB b k hb with ⟨h1, h2⟩ | ⟨h1, h2⟩
    · rcases hB b' k' hb' with ⟨h1', h2'⟩ | ⟨h1', h2'⟩
      · rw [hρ b h2] at hs
        rw [hρ b' h2'] at hs'
        exact inv.inj b b' k k' s s' h1 h1' hs hs' e
      · exfalso
        rw [hρ b h2] at hs
        rw [h1', hρn] at hs'
        cases hs'
        obtain ⟨s2, g1, g2⟩ := inv.blk b k h1
        rw [hs] at g1
        cases g1
        have := g2.lt
        omega
    · rcases hB b' k' hb' with ⟨h1', h2'⟩ | ⟨h1', h2'⟩
      · exfalso
        rw [hρ b' h2'] at hs'
        rw [h1, hρn] at hs
        cases hs
        obtain ⟨s2, g1, g2⟩ := inv.blk b' k' h1'
        rw [hs'] at g1
        cases g1
        have := g2.lt
        omega
      · rw [h1, h1']
  · by_cases e : q.i = r.i
    · have := h.uniq hq e
      subst this
      exact absurd hh hnh
    · exact inv.hlow q hq (hS.resolve_right e) hh
  · by_cases e : q.i = r.i
    · have := h.uniq hq e
      subst this
      intro k hk
      rw [hH] at hk
      cases hk
      exact hbl
    · exact inv.mlow q hq (hS.resolve_right e) hm hlt
  · have : (c2.put r.o.dst u).defers = c.defers := by rw [← hcd]; cases r.o.dst <;> rfl
    rw [this]
    obtain ⟨D, g1, g2⟩ := inv.dfr
    refine ⟨D, dat_quiet (fun q hq hh => ?_) g1, g2.mono hext⟩
    constructor
    · rintro (h1 | e)
      · exact h1
      · have := h.uniq hq e
        subst this
        exact absurd hh hnh
    · exact .inl
  · by_cases e : q.i = r.i
    · have := h.uniq hq e
      subst this
      exact absurd hh hnh
    · exact inv.dlow q hq (hS.resolve_right e) hh
  · have := (chain_le hst.up h.chp h.at).1
    rw [hρ b (by omega)]
    exact inv.low b hb
  · rcases hB b k hb with ⟨h1, h2⟩ | ⟨h1, h2⟩
    · rw [hρ b h2] at hs
      exact inv.own b k s h1 hs
    · rw [h1, hρn] at hs
      cases hs
      exact .inr (Nat.le_trans inv.wsize hnew)
  · rw [hw.heap k (Nat.lt_of_lt_of_le hk inv.wsize)]
    exact inv.frame k hk hn
end Go.Eng
/- The engine: regions whose order is drawn: one heavy operation more. -/
namespace Go.Eng
variable {X : Cx} {S : Nat → Prop} {R post pre : List Rec} {r : Rec} {ρ0 ρ : Rho} {w0 w : World} {c : Act}

/-- no heavy operation behind this one has been done -/
theorem heavy_post (h : Next X R S post pre r) (hh : r.hv) : ∀ q ∈ post, ¬(S q.i ∧ q.hv) := by
  intro q hq ⟨hS, hv⟩
  obtain ⟨pq, k1, k2, _⟩ := h.post_ok hq
  exact h.not (h.cl q (h.subp q hq) hS _ (k1.heavy hv r k2 (.inl hh)))

theorem heavy_pre (h : Next X R S post pre r) (hh : r.hv) : (∀ q ∈ pre, q.hv → S q.i) ∧ (∀ q ∈ pre, q.mk' → S q.i) :=
  ⟨fun q hq hv => h.rd _ (h.ok.heavy hh q hq (.inl hv)), fun q hq hm => h.rd _ (h.ok.heavy hh q hq (.inr hm))⟩

/-- the plan's heap, ahead of a heavy operation, is there -/
theorem heavy_blocks (h : Next X R S post pre r) (hh : r.hv) {b : Nat} {k : Blk} (hb : getP r.H (at_ b) = some k) : Blocks S X.H0 pre b k ∧ Blocks S X.H0 R b k := by
  obtain ⟨h1, h2⟩ := heavy_pre h hh
  have h3 := heap_blocks h.chp h.at (b := b) (k := k) h1 (fun q hq hm _ _ => h2 q hq hm) hb
  refine ⟨h3, ?_⟩
  rw [h.eq]
  exact blocks_skip (heavy_post h hh) (.inr (.inr ⟨fun g => h.not g.1, h3⟩))

theorem heavy_hr (hst : Start X ρ0 w0) (inv : SInv X R ρ0 w0 S ρ c w) (h : Next X R S post pre r) (hh : r.hv) : HR (ρ.upto r.nx) r.H r.nx w.heap := by
  obtain ⟨l1, l2⟩ := chain_le hst.up h.chp h.at
  refine ⟨fun b k hb => ?_, fun b b' k k' s s' hb hb' hs hs' e => ?_, below_upto⟩
  · obtain ⟨g1, g2⟩ := heavy_blocks h hh hb
    obtain ⟨s, g3, g4⟩ := inv.blk b k g2
    have hlow := blocks_low hst inv (m := r.nx) h.sub l1 (fun q hq => (l2 q hq).1) g1
    exact ⟨s, by rw [Rho.upto_lt hlow.lt]; exact g3, hlow.cut g4⟩
  · exact inv.inj b b' k k' s s' (heavy_blocks h hh hb).2 (heavy_blocks h hh hb').2 (upto_ext _ _ hs) (upto_ext _ _ hs') e

theorem heavy_dfr (hst : Start X ρ0 w0) (inv : SInv X R ρ0 w0 S ρ c w) (h : Next X R S post pre r) (hh : r.hv) : DfRs (ρ.upto r.nx) r.D c.defers ∧ DfRs ρ r.D c.defers ∧ DLow r.nx r.D := by
  obtain ⟨l1, l2⟩ := chain_le hst.up h.chp h.at
  obtain ⟨D, g1, g2⟩ := inv.dfr
  have hd : Dat S X.D0 pre r.D := dat_at h.chp h.at (heavy_pre h hh).1
  have hd' : Dat S X.D0 R r.D := by
    rw [h.eq]
    exact (dat_skip (heavy_post h hh)).2 (.inr ⟨fun g => h.not g.1, hd⟩)
  have := dat_uniq g1 hd'
  subst this
  have hlow : ∀ {p : List Rec} {D : List Dfd}, (∀ q ∈ p, q ∈ R ∧ q.nx' ≤ r.nx) → Dat S X.D0 p D → DLow r.nx D := by
    intro p
    induction p with
    | nil => intro D _ hD; rw [show D = X.D0 from hD]; exact hst.dlow.mono l1
    | cons q p ih =>
      intro D hp hD
      rcases hD with ⟨k1, k2, rfl⟩ | ⟨_, hD⟩
      · exact (inv.dlow q (hp q List.mem_cons_self).1 k1 k2).mono (hp q List.mem_cons_self).2
      · exact ih (fun x hx => hp x (List.mem_cons_of_mem _ hx)) hD
  have hl := hlow (fun q hq => ⟨h.sub q hq, (l2 q hq).1⟩) hd
  exact ⟨hl.cut g2, g2, hl⟩

theorem inv_heavy {ρ2 : Rho} {w' : World} {c2 : Act} {u : Value} (hst : Start X ρ0 w0) (inv : SInv X R ρ0 w0 S ρ c w) (h : Next X R S post pre r) (hh : r.hv) (hv : VR ρ2 r.v u) (hw : Went (ρ.upto r.nx) r.H r.nx w ρ2 r.H' r.nx' w') (hD : DfRs ρ2 r.D' c2.defers) (hc : c2.tmps = c.tmps) :
    ∃ ρ', SInv X R ρ0 w0 (More S r) ρ' (c2.put r.o.dst u) w' := by
  have hnm : ¬ r.mk' := by
    intro hm
    unfold Rec.hv at hh
    unfold Rec.mk' at hm
    cases hk : kdOf r.a <;> rw [hk] at hh hm <;> simp [isHeavy, isMake] at hh hm
  obtain ⟨l1, l2⟩ := chain_le hst.up h.chp h.at
  have hpost := heavy_post h hh
  have hpost' : ∀ q ∈ post, ¬(More S r q.i ∧ q.hv) := fun q hq ⟨g1, g2⟩ => hpost q hq ⟨g1.resolve_right (h.post_ne hq), g2⟩
  obtain ⟨ρ', hρ'⟩ : ∃ ρ' : Rho, ∀ b, ρ' b = if r.nx ≤ b ∧ b < r.nx' then ρ2 b else ρ b := ⟨fun b => if r.nx ≤ b ∧ b < r.nx' then ρ2 b else ρ b, fun _ => rfl⟩
  have hext : Ext ρ ρ' := by
    intro b s hb
    rw [hρ', if_neg (fun g => by rw [fresh_nums hst inv h g.1 g.2] at hb; cases hb)]
    exact hb
  have hext2 : Ext ρ2 ρ' := by
    intro b s hb
    rw [hρ']
    by_cases hb1 : b < r.nx
    · rw [if_neg (by omega)]
      rw [hw.low b hb1, Rho.upto_lt hb1] at hb
      exact hb
    · by_cases hb2 : b < r.nx'
      · rw [if_pos ⟨by omega, hb2⟩]; exact hb
      · rw [hw.hr.new b (by omega)] at hb; cases hb
  -- the blocks, afterwards
  have hB : ∀ b k, Blocks (More S r) X.H0 R b k → getP r.H' (at_ b) = some k ∨ (Blocks S X.H0 R b k ∧ r.nx' ≤ b) := by
    intro b k hb
    rw [h.eq] at hb
    rcases blocks_inv hpost' hb with h1 | ⟨m, hm, g1, g2, g3, g4, g5⟩
    · rcases h1 with ⟨_, _, h1⟩ | ⟨_, h1, _⟩ | ⟨h1, _⟩
      · exact .inl h1
      · exact absurd h1 hnm
      · exact absurd ⟨.inr rfl, hh⟩ h1
    · refine .inr ⟨?_, ?_⟩
      · rw [h.eq]
        exact blocks_make hpost hm (g1.resolve_right (h.post_ne hm)) g2 g3 g4 g5
      · obtain ⟨pq, k1, k2, _, k4, k5⟩ := h.post_ok hm
        have := ((chain_le hst.up k5 k4).2 r k2).1
        omega
  have howned : ∀ j, Own (ρ.upto r.nx) r.H j → ∃ b k s, Blocks S X.H0 R b k ∧ ρ b = some s ∧ s.blk = j ∧ b < r.nx := by
    rintro j ⟨b, k, s, g1, g2, g3⟩
    refine ⟨b, k, s, (heavy_blocks h hh g1).2, upto_ext _ _ g2, g3, ?_⟩
    rcases Nat.lt_or_ge b r.nx with h1 | h1
    · exact h1
    · rw [Rho.upto_ge h1] at g2; cases g2
  -- what was there besides
  have hside : ∀ b k s, Blocks S X.H0 R b k → r.nx' ≤ b → ρ b = some s → s.blk < w.heap.size ∧ ¬ Own (ρ.upto r.nx) r.H s.blk := by
    intro b k s hb hle hs
    obtain ⟨s', g1, g2⟩ := inv.blk b k hb
    rw [hs] at g1
    cases g1
    refine ⟨g2.lt, fun ho => ?_⟩
    obtain ⟨b2, k2, s2, q1, q2, q3, q4⟩ := howned _ ho
    have := inv.inj b2 b k2 k s2 s q1 hb q2 hs q3
    have := h.le hst.up
    omega
  have hin : ∀ b k, getP r.H' (at_ b) = some k → ∃ s, ρ2 b = some s ∧ ρ' b = some s ∧ BR ρ2 w'.heap s k := by
    intro b k hb
    obtain ⟨s, g1, g2⟩ := hw.hr.blk b k hb
    exact ⟨s, g1, hext2 _ _ g1, g2⟩
  have hmix : ∀ b b' k k' s s', getP r.H' (at_ b) = some k → Blocks S X.H0 R b' k' → r.nx' ≤ b' → ρ' b = some s → ρ' b' = some s' → s.blk = s'.blk → False := by
    intro b b' k k' s s' hb hb' hle hs hs' e
    obtain ⟨s1, g1, g2, g3⟩ := hin b k hb
    rw [hs] at g2
    cases g2
    rw [hρ', if_neg (by omega)] at hs'
    obtain ⟨q1, q2⟩ := hside b' k' s' hb' hle hs'
    rcases hw.stp.own s.blk ⟨b, k, s, hb, g1, rfl⟩ with ho | ho
    · exact q2 (e ▸ ho)
    · omega
  obtain ⟨t1, t2, t3, t4⟩ := tm_step inv h hext (hv.mono hext2) (hv.low hw.hr.new) hc
  refine ⟨ρ', fun b s hb => ?_, t1, t2, t3, t4, fun b k hb => ?_, fun b b' k k' s s' hb hb' hs hs' e => ?_, fun q hq hS hv => ?_, fun q hq hS hm hlt => ?_, ?_, fun q hq hS hv => ?_, inv.ext.trans hext, fun b hb => ?_,
    fun b k s hb hs => ?_, fun k hk hn => ?_, Nat.le_trans inv.wsize hw.stp.size, hw.stp.os.trans inv.os, hw.stp.tape.trans inv.tape, hw.stp.output.trans inv.output⟩
  · by_cases hi : r.nx ≤ b ∧ b < r.nx'
    · exact .inr ⟨r, h.mem, .inr rfl, hi.1, hi.2⟩
    · rw [hρ', if_neg hi] at hb
      rcases inv.dom b s hb with h1 | ⟨q, hq, hS, g⟩
      · exact .inl h1
      · exact .inr ⟨q, hq, .inl hS, g⟩
  · rcases hB b k hb with h1 | ⟨h1, h2⟩
    · obtain ⟨s, g1, g2, g3⟩ := hin b k h1
      exact ⟨s, g2, g3.mono hext2⟩
    · obtain ⟨s, g1, g2⟩ := inv.blk b k h1
      obtain ⟨q1, q2⟩ := hside b k s h1 h2 g1
      exact ⟨s, hext _ _ g1, (g2.mono hext).of_same (hw.stp.frame _ q1 q2)⟩
  · rcases hB b k hb with h1 | ⟨h1, h2⟩
    · rcases hB b' k' hb' with h1' | ⟨h1', h2'⟩
      · obtain ⟨s1, g1, g2, _⟩ := hin b k h1
        obtain ⟨s1', g1', g2', _⟩ := hin b' k' h1'
        rw [hs] at g2
        rw [hs'] at g2'
        cases g2; cases g2'
        exact hw.hr.inj b b' k k' s s' h1 h1' g1 g1' e
      · exact (hmix b b' k k' s s' h1 h1' h2' hs hs' e).elim
    · rcases hB b' k' hb' with h1' | ⟨h1', h2'⟩
      · exact (hmix b' b k' k s' s h1' h1 h2 hs' hs e.symm).elim
      · rw [hρ', if_neg (by omega)] at hs
        rw [hρ', if_neg (by omega)] at hs'
        exact inv.inj b b' k k' s s' h1 h1' hs hs' e
  · by_cases e : q.i = r.i
    · have := h.uniq hq e
      subst this
      exact fun b k hb => hw.hr.blow hb
    · exact inv.hlow q hq (hS.resolve_right e) hv
  · by_cases e : q.i = r.i
    · have := h.uniq hq e
      subst this
      exact absurd hm hnm
    · exact inv.mlow q hq (hS.resolve_right e) hm hlt
  · have : (c2.put r.o.dst u).defers = c2.defers := by cases r.o.dst <;> rfl
    rw [this]
    refine ⟨r.D', ?_, hD.mono hext2⟩
    rw [h.eq]
    exact (dat_skip hpost').2 (.inl ⟨.inr rfl, hh, rfl⟩)
  · by_cases e : q.i = r.i
    · have := h.uniq hq e
      subst this
      exact ⟨ρ2, _, hD, hw.hr.new⟩
    · exact inv.dlow q hq (hS.resolve_right e) hv
  · rw [hρ', if_neg (by omega)]
    exact inv.low b hb
  · rcases hB b k hb with h1 | ⟨h1, h2⟩
    · obtain ⟨s1, g1, g2, _⟩ := hin b k h1
      rw [hs] at g2
      cases g2
      rcases hw.stp.own s.blk ⟨b, k, s, h1, g1, rfl⟩ with ho | ho
      · obtain ⟨b2, k2, s2, q1, q2, q3, _⟩ := howned _ ho
        have := inv.own b2 k2 s2 q1 q2
        rwa [q3] at this
      · exact .inr (Nat.le_trans inv.wsize ho)
    · rw [hρ', if_neg (by omega)] at hs
      exact inv.own b k s h1 hs
  · have hk' := Nat.lt_of_lt_of_le hk inv.wsize
    rw [hw.stp.frame k hk' fun ho => ?_]
    · exact inv.frame k hk hn
    · obtain ⟨b2, k2, s2, q1, q2, q3, _⟩ := howned _ ho
      rcases inv.own b2 k2 s2 q1 q2 with g | g
      · rw [q3] at g; exact hn g
      · rw [q3] at g; omega
end Go.Eng
/- The engine: regions whose order is drawn: loads, and operations that leave the heap alone. -/
namespace Go.Eng

section
variable {P : Program} {ins : List Nat} {w : World} {ρ : Rho} {H : Heap} {nx : Nat} {r : Ex × St} {T : Tr Value} {L : List Value} {ρa ρc : Operand → Value} {o : Oper}

/-- a load, run: the world is as it was -/
theorem load_run {a : AOp Operand} {k : KV} (hk : kdOf a = .load) (hc : compileOp P ins o = some a) (ha : a.all fun x => VR ρ (ρa x) (ρc x)) (hH : HR ρ H nx w.heap) (h : lookT (a.map (Av ρa)) P T L H k = some r) :
    ∃ x y, k x = some r ∧ (execOp ρc o).run P w = .ok (.value y) w ∧ VR ρ x y := by
  have fin : ∀ s : Sem Value, execOp ρc o = (do pure (.value (← s))) → (∃ x y, k x = some r ∧ s.run P w = .ok y w ∧ VR ρ x y) → ∃ x y, k x = some r ∧ (execOp ρc o).run P w = .ok (.value y) w ∧ VR ρ x y := by
    rintro s hs ⟨x, y, h1, h2, h3⟩
    exact ⟨x, y, h1, by rw [hs]; simp only [Sem.run_bind, h2, Result.andThen_ok, Sem.run_pure], h3⟩
  have hfrom := compile_from hc
  cases ho : o.op with
  | load t x =>
    simp only [compileOp, ho, Option.map_eq_some_iff] at hc
    obtain ⟨g, hg, rfl⟩ := hc
    exact fin (Instr.loadAt t (ρc x)) (by simp only [execOp, ho]) (lod_sound hg hH ha h)
  | lookup t x i ok =>
    simp only [compileOp, ho] at hc
    split at hc
    · rename_i kt e hu
      simp only [Option.map_eq_some_iff] at hc
      obtain ⟨z, hz, rfl⟩ := hc
      exact fin (Instr.lookup t (ρc x) (ρc i) ok) (by simp only [execOp, ho]) (lku_sound hu hz hH ha.1 ha.2 h)
    · cases hc
  | call d =>
    cases hb : d.callee with
    | builtin b =>
      simp only [compileOp, ho, hb] at hc
      unfold compileBuiltin at hc
      split at hc
      · split at hc
        · split at hc <;> first | cases hc | (replace hc := bif_some hc; cases hc; cases hk)
        · cases hc
      · rename_i t l x hts hargs
        have hl : ∀ u : Value, Builtin.len_ d.argTypes o.type #[u] = Builtin.len_ #[t] o.type #[u] := fun u => len_ts (ts_head hts)
        split at hc
        · cases hc; cases hk
        · cases hc; cases hk
        · rename_i kt e hu
          cases hc
          refine fin (Builtin.len_ #[t] o.type #[ρc x]) ?_ (mln_sound hu hH ha (show mlnV H (ρa x) k = some r from h))
          rw [builtin_op ho hb, args_eq hargs, ← hl]
          rfl
        · cases hc
      · split at hc
        · cases hc; cases hk
        · cases hc
      · split at hc
        · split at hc
          · cases hc; cases hk
          · cases hc
        · cases hc
      · cases hc; cases hk
      · cases hc; cases hk
      · cases hc; cases hk
      · cases hc
    | value f =>
      exfalso
      cases f with
      | func g =>
        simp only [compileOp, ho, hb] at hc
        cases hg : isIn ins g with
        | true =>
          rw [hg] at hc
          simp only [cond_true] at hc
          split at hc
          · split at hc
            · split at hc
              · cases hc; cases hk
              · cases hc
            · cases hc
          · cases hc
        | false => rw [hg] at hc; cases hc; cases hk
      | _ => simp only [compileOp, ho, hb] at hc; cases hc; cases hk
    | invoke x name => simp only [compileOp, ho, hb] at hc; cases hc; cases hk
  | binOp op t x y b =>
    exfalso
    simp only [compileOp, ho] at hc
    unfold compileBin at hc
    repeat' split at hc
    all_goals first
      | (replace hc := bif_some hc; cases hc; cases hk; done)
      | (cases hc; done)
      | (cases hc; cases hk; done)
  | makeFunc f a b =>
    exfalso
    cases f <;> simp only [compileOp, ho] at hc <;> first | (cases hc; done) | (cases hc; cases hk; done)
  | _ =>
    exfalso
    simp only [compileOp, ho] at hc
    repeat' split at hc
    all_goals first
      | (cases hc; done)
      | (obtain ⟨z, _, rfl⟩ := Option.map_eq_some_iff.1 (bif_some hc); cases hk; done)
      | (replace hc := bif_some hc; cases hc; cases hk; done)
      | (obtain ⟨z, _, rfl⟩ := Option.map_eq_some_iff.1 hc; cases hk; done)
      | (cases hc; cases hk; done)

/-- what a load is, is not told by the list of 'insert's -/
theorem comp_nil {a a' : AOp Operand} (h : compileOp P ins o = some a) (h' : compileOp P [] o = some a') (hk : kdOf a = .load) : a' = a := by
  cases ho : o.op with
  | call d =>
    cases hd : d.callee with
    | value f =>
      exfalso
      cases f with
      | func g =>
        simp only [compileOp, ho, hd] at h
        cases hg : isIn ins g with
        | true =>
          rw [hg] at h
          simp only [cond_true] at h
          split at h
          · split at h
            · split at h
              · cases h; cases hk
              · cases h
            · cases h
          · cases h
        | false => rw [hg] at h; cases h; cases hk
      | _ => simp only [compileOp, ho, hd] at h; cases h; cases hk
    | _ =>
      simp only [compileOp, ho, hd] at h h'
      rw [h] at h'
      exact (Option.some.inj h').symm
  | makeFunc f a b =>
    cases f <;> simp only [compileOp, ho] at h h'
    all_goals first
      | (cases h; done)
      | (rw [h] at h'; exact (Option.some.inj h').symm)
  | _ =>
    simp only [compileOp, ho] at h h'
    rw [h] at h'
    exact (Option.some.inj h').symm
end
end Go.Eng
/- The engine: regions whose order is drawn: each kind of operation. -/
namespace Go.Eng
variable {X : Cx} {S : Nat → Prop} {R post pre : List Rec} {r : Rec} {ρ0 ρ : Rho} {w0 w : World} {c : Act}

theorem wanted_S {ops : List Oper} {o : Oper} {σ : Sig} {tm : Array Value} (h : ∀ j w q t, o.guard = some (j, w) → ops[j]? = some q → q.dst = some t → ∃ ρ, VR ρ (σ t) (tm.getD t undef)) :
    Region.wanted o (yielded ops.toArray tm) = wantS ops σ o.guard := by
  unfold Region.wanted
  cases hg : o.guard with
  | none => rfl
  | some p =>
    obtain ⟨j, want⟩ := p
    show (yielded ops.toArray tm j == some want) = wantS ops σ (some (j, want))
    cases hj : ops[j]? with
    | none => simp [yielded, wantS, hj]
    | some q =>
      cases hd : q.dst with
      | none => simp [yielded, wantS, hj, hd]
      | some t =>
        obtain ⟨ρ, hv⟩ := h j want q t hg hj hd
        have hy : yielded ops.toArray tm j = match tm.getD t undef with | .bool b => some b | _ => none := by
          unfold yielded
          simp only [List.getElem?_toArray, hj, Option.bind_some, hd, Array.getD_eq_getD_getElem?]
          cases tm[t]? with
          | none => rfl
          | some v => cases v <;> rfl
        have hs : wantS ops σ (some (j, want)) = wantB want (σ t) := by simp only [wantS, hj, Option.bind_some, hd]
        rw [hy, hs]
        generalize tm.getD t undef = u at hv
        generalize σ t = v at hv
        cases hv with
        | sc h => cases u <;> first | rfl | (rename_i b; cases b <;> cases want <;> rfl) | (simp [scalar] at h)
        | _ => rfl

theorem reads_guard (hst : Start X ρ0 w0) (inv : SInv X R ρ0 w0 S ρ c w) (h : Next X R S post pre r) {j : Nat} {want : Bool} {q : Oper} {t : Nat} (hg : r.o.guard = some (j, want)) (hj : X.ops[j]? = some q) (hd : q.dst = some t) :
    VR ρ (r.σ t) (c.tmps.getD t undef) ∧ VLow r.nx (r.σ t) := by
  have hb := h.ok.grd j want hg
  obtain ⟨q1, hq1, hi⟩ := h.ok.befs j hb
  obtain ⟨_, _, _, k1, _⟩ := chain_split h.chp hq1
  have ho : q1.o = q := by
    have := k1.op
    rw [hi, hj] at this
    exact (Option.some.inj this).symm
  exact reads_pre hst inv h hq1 (ho ▸ hd) (by rw [hi]; exact h.rd _ hb)

theorem draw_guard (hst : Start X ρ0 w0) (inv : SInv X R ρ0 w0 S ρ c w) (h : Next X R S post pre r) : Region.wanted r.o (yielded X.ops.toArray c.tmps) = wantS X.ops r.σ r.o.guard :=
  wanted_S fun _ _ _ _ hg hj hd => ⟨ρ, (reads_guard hst inv h hg hj hd).1⟩

/-- neither heavy nor a make -/
theorem quiet_light {w' : World} {c2 : Act} {u : Value} (inv : SInv X R ρ0 w0 S ρ c w) (h : Next X R S post pre r) (hh : ¬ r.hv) (hm : r.mk' → ¬ r.nx < r.nx') (hw : Still w w') (hv : VR ρ r.v u) (hl : VLow r.nx' r.v) (hc : c2.tmps = c.tmps) (hcd : c2.defers = c.defers) :
    SInv X R ρ0 w0 (More S r) ρ (c2.put r.o.dst u) w' := by
  refine inv_quiet inv h hw hv hl hc hcd (fun b k hb => blocks_quiet (fun q hq hk => ?_) hb) (fun g => absurd g hh) (fun g1 g2 => hm g1 g2) ?_ (fun g => absurd g hh)
  · refine ⟨fun g => g.elim id fun e => ?_, .inl⟩
    have := h.uniq hq e
    subst this
    rcases hk with hk | ⟨k1, k2⟩
    · exact absurd hk hh
    · exact absurd k2 (hm k1)
  · obtain ⟨D, g1, g2⟩ := inv.dfr
    refine ⟨D, dat_quiet (fun q hq hk => ?_) g1, g2⟩
    refine ⟨fun g => g.elim id fun e => ?_, .inl⟩
    have := h.uniq hq e
    subst this
    exact absurd hk hh

theorem hr_empty {ρ : Rho} {n : Nat} {hp : Array Obj} : HR (ρ.upto n) .e n hp :=
  ⟨(fun b k hb => by cases hb), (fun b b' k k' s s' hb => by cases hb), below_upto⟩

theorem still_of {ρ ρ' : Rho} {H' : Heap} {w w' : World} (h : Stp ρ .e w ρ' H' w') : Still w w' :=
  ⟨fun k hk => h.frame k hk (fun ⟨b, x, s, hb, _⟩ => by cases hb), h.size, h.os, h.tape, h.output⟩

theorem reads_upto (hst : Start X ρ0 w0) (inv : SInv X R ρ0 w0 S ρ c w) (h : Next X R S post pre r) {m : Nat} (hm : r.nx ≤ m) : r.a.all fun x => VR (ρ.upto m) (evS r.σ x) (c.eval x) :=
  all_mono (fun _ hx => (hx.2.mono hm).cut hx.1) (reads_all hst inv h)

theorem upon_value {P : Program} {o : Oper} {next : Act → World → Prop} {Q : Exit → Act → World → Prop} {s : Result Go.Next} {u : Value} {w' : World} (h : s = .ok (.value u) w' ∨ (s = .ok .skip w' ∧ u = undef)) (hn : next (c.put o.dst u) w') : o.upon P c next Q s := by
  rcases h with h | ⟨h, rfl⟩ <;> (rw [h]; exact hn)

/-- an operation that has nothing to do with the heap -/
theorem pure_run {next : Act → World → Prop} {Q : Exit → Act → World → Prop} {env : Env} {T : Tr Value} {L : List Value} {b : AOp Od} (hst : Start X ρ0 w0) (inv : SInv X R ρ0 w0 S ρ c w) (h : Next X R S post pre r) (ht : r.a.trav (cv X.kept X.n env) = some b) (hE : EnvS X.kept r.σ env T L)
    (hk : kdOf r.a = .pure) (hact : ∀ k, actT b X.P T L r.H r.nx k = k r.v r.H' r.nx') (hn : ∀ ρ' c' w', SInv X R ρ0 w0 (More S r) ρ' c' w' → next c' w') : r.o.upon X.P c next Q ((execOp c.eval r.o).run X.P w) := by
  have hkb : kdOf b = .pure := (kdOf_trav (.loc 0) ht).trans hk
  obtain ⟨e1, e2, h2⟩ := act_pure hkb hact
  have h3 := act_S ht hE (H := .e) (nx := r.nx) (fun k => h2 .e r.nx k) T L ka0
  have hh : ¬ r.hv := by unfold Rec.hv; rw [hk]; simp [isHeavy]
  obtain ⟨v2, H2, nx2, u, w', ρ', g1, g2, g3, g4, g5, g6, g7⟩ := act_sound (T := T) (L := L) (w := w) h.ok.comp (plain_of_kd hh) (reads_upto hst inv h (Nat.le_refl _)) hr_empty (h3.trans rfl)
  obtain ⟨rfl, rfl, rfl⟩ := ka0_inj (g1.trans rfl)
  have hex : Ext ρ' ρ := by
    intro b s hb
    rcases Nat.lt_or_ge b r.nx with h1 | h1
    · rw [g7 b h1, Rho.upto_lt h1] at hb; exact hb
    · rw [g4.new b h1] at hb; cases hb
  exact upon_value g2 (hn ρ _ w' (quiet_light inv h hh (fun _ => by omega) (still_of g5) (g3.mono hex) (by rw [e2]; exact g3.low g4.new) rfl rfl))

/-- a make -/
theorem make_run {next : Act → World → Prop} {Q : Exit → Act → World → Prop} {env : Env} {T : Tr Value} {L : List Value} {b : AOp Od} (hst : Start X ρ0 w0) (inv : SInv X R ρ0 w0 S ρ c w) (h : Next X R S post pre r) (ht : r.a.trav (cv X.kept X.n env) = some b) (hE : EnvS X.kept r.σ env T L)
    (hk : kdOf r.a = .make) (hact : ∀ k, actT b X.P T L r.H r.nx k = k r.v r.H' r.nx') (hn : ∀ ρ' c' w', SInv X R ρ0 w0 (More S r) ρ' c' w' → next c' w') : r.o.upon X.P c next Q ((execOp c.eval r.o).run X.P w) := by
  have hkb : kdOf b = .make := (kdOf_trav (.loc 0) ht).trans hk
  obtain ⟨blk, e1, e2, h2⟩ := act_make hkb hact
  have h3 := act_S ht hE (H := .e) (nx := r.nx) (fun k => h2 .e k) T L ka0
  have hh : ¬ r.hv := by unfold Rec.hv; rw [hk]; simp [isHeavy]
  obtain ⟨v2, H2, nx2, u, w', ρ', g1, g2, g3, g4, g5, g6, g7⟩ := act_sound (T := T) (L := L) (w := w) h.ok.comp (plain_of_kd hh) (reads_upto hst inv h (Nat.le_refl _)) hr_empty (h3.trans rfl)
  obtain ⟨rfl, rfl, rfl⟩ := ka0_inj (g1.trans rfl)
  have hget : getP (insP (at_ r.nx) (.e : Heap) (some blk)) (at_ r.nx) = some blk := getP_insP _ _ _
  obtain ⟨rr, q1, q2⟩ := g4.blk r.nx blk hget
  have hnew : w.heap.size ≤ rr.blk := by
    rcases g5.own rr.blk ⟨r.nx, blk, rr, hget, q1, rfl⟩ with ⟨b, x, s, hb, _⟩ | h1
    · cases hb
    · exact h1
  have hex : Ext ρ' (fun b => if b = r.nx then ρ' b else ρ b) := by
    intro b s hb
    show (if b = r.nx then ρ' b else ρ b) = some s
    by_cases e : b = r.nx
    · rw [if_pos e]; exact hb
    · rw [if_neg e]
      rcases Nat.lt_or_ge b r.nx with h1 | h1
      · rw [g7 b h1, Rho.upto_lt h1] at hb; exact hb
      · rw [g4.new b (by omega)] at hb; cases hb
  refine upon_value g2 (hn (fun b => if b = r.nx then ρ' b else ρ b) _ w' ?_)
  exact inv_make (blk := blk) (rr := rr) hst inv h (still_of g5) (by unfold Rec.mk'; rw [hk]; rfl) e2 (by rw [e1]; exact getP_insP _ _ _) (fun b hb => if_neg hb) (by show (if r.nx = r.nx then ρ' r.nx else ρ r.nx) = some rr; rw [if_pos rfl]; exact q1) (q2.mono hex) hnew
    (by rw [e2]; exact g4.blow hget) (g3.mono hex) (by rw [e2]; exact g3.low g4.new) rfl rfl
end Go.Eng
/- The engine: regions whose order is drawn: loads. -/
namespace Go.Eng
variable {X : Cx} {S : Nat → Prop} {R post pre : List Rec} {r : Rec} {ρ0 ρ : Rho} {w0 w : World} {c : Act}

theorem single_get {b b' : Nat} {x : Option Blk} {k : Blk} (h : getP (insP (at_ b) (.e : Heap) x) (at_ b') = some k) : b' = b ∧ x = some k := by
  by_cases e : at_ b' = at_ b
  · rw [e, getP_insP] at h
    exact ⟨at_inj e, h⟩
  · rw [getP_insP_ne _ _ _ _ e] at h
    cases h

theorem single_hr {ρ : Rho} {m b : Nat} {x : Option Blk} {hp : Array Obj} (h : ∀ k, x = some k → ∃ rr, ρ b = some rr ∧ BR ρ hp rr k) (hm : Below ρ m) : HR ρ (insP (at_ b) .e x) m hp := by
  refine ⟨fun b' k hb => ?_, fun b1 b2 k1 k2 s1 s2 h1 h2 _ _ _ => ?_, hm⟩
  · obtain ⟨rfl, e⟩ := single_get hb
    exact h k e
  · rw [(single_get h1).1, (single_get h2).1]

theorem loadArg_some {a : AOp Operand} (hk : kdOf a = .load) : ∃ x, loadArg a = some x := by
  cases a <;> first | (cases hk; done) | exact ⟨_, rfl⟩

theorem load_at {H : Heap} {m : Nat} (hst : Start X ρ0 w0) (inv : SInv X R ρ0 w0 S ρ c w) (h : Next X R S post pre r) (hk : kdOf r.a = .load) (hm : r.nx ≤ m) (hl : ∀ T L k, lookT (r.a.map (Av (evS r.σ))) X.P T L H k = k r.v)
    (hb : ∀ x b, loadArg r.a = some x → blkOf (evS r.σ x) = some b → ∀ k, getP H (at_ b) = some k → ∃ rr, ρ b = some rr ∧ BR ρ w.heap rr k ∧ BLow m b k) : ∃ u, (execOp c.eval r.o).run X.P w = .ok (.value u) w ∧ VR (ρ.upto m) r.v u := by
  obtain ⟨x, hx⟩ := loadArg_some hk
  have hs : ∃ Hs : Heap, HR (ρ.upto m) Hs m w.heap ∧ ∀ b, blkOf (evS r.σ x) = some b → getP Hs (at_ b) = getP H (at_ b) := by
    cases hbl : blkOf (evS r.σ x) with
    | none => exact ⟨.e, hr_empty, fun b hb => by cases hb⟩
    | some b =>
      refine ⟨insP (at_ b) .e (getP H (at_ b)), single_hr (fun k hg => ?_) below_upto, fun b' hb' => by cases hb'; exact getP_insP _ _ _⟩
      obtain ⟨rr, g1, g2, g3⟩ := hb x b hx hbl k hg
      exact ⟨rr, by rw [Rho.upto_lt g3.lt]; exact g1, g3.cut g2⟩
  obtain ⟨Hs, h1, h2⟩ := hs
  have h3 : lookT (r.a.map (Av (evS r.σ))) X.P .e [] Hs kv0 = kv0 r.v := by
    rw [look_load (H := H) hk fun x' b hx' hb' => ?_]
    · exact hl _ _ _
    · rw [hx] at hx'
      cases hx'
      exact h2 b hb'
  obtain ⟨v, u, g1, g2, g3⟩ := load_run hk h.ok.comp (reads_upto hst inv h hm) h1 (h3.trans rfl)
  have hv : v = r.v := by
    have e : kv0 v = kv0 r.v := g1
    unfold kv0 at e
    simp only [Option.some.injEq, Prod.mk.injEq, St.mk.injEq, Tr.n.injEq, true_and, and_true] at e
    exact e
  rw [hv] at g3
  exact ⟨u, g2, g3⟩

theorem ref_exists {ρ ρ' : Rho} {v u : Value} {b : Nat} {rr : Ref} (h : VR ρ v u) (hb : blkOf v = some b) (hr : ρ' b = some rr) : ∃ u', VR ρ' v u' := by
  cases h with
  | ptr h => cases hb; exact ⟨_, .ptr hr⟩
  | map h => cases hb; exact ⟨_, .map hr⟩
  | sc h => unfold blkOf at hb; split at hb <;> first | (simp [scalar] at h; done) | cases hb
  | _ => cases hb

theorem ref_some {ρ : Rho} {v u : Value} {b : Nat} (h : VR ρ v u) (hb : blkOf v = some b) : ∃ rr, ρ b = some rr := by
  cases h with
  | ptr h => cases hb; exact ⟨_, h⟩
  | map h => cases hb; exact ⟨_, h⟩
  | sc h => unfold blkOf at hb; split at hb <;> first | (simp [scalar] at h; done) | cases hb
  | _ => cases hb

theorem loadArg_all {a : AOp Operand} {p : Operand → Prop} {x : Operand} (h : a.all p) (hx : loadArg a = some x) : p x := by
  cases a <;> simp only [loadArg] at hx <;> first | (cases hx; done) | (cases hx; simp only [AOp.all] at h; first | exact h | exact h.1)

/-- a load's value speaks of early blocks alone -/
theorem load_low (hst : Start X ρ0 w0) (inv : SInv X R ρ0 w0 S ρ c w) (h : Next X R S post pre r) (hk : kdOf r.a = .load) (hl : ∀ T L k, lookT (r.a.map (Av (evS r.σ))) X.P T L r.H k = k r.v)
    (hb : ∀ x b, loadArg r.a = some x → blkOf (evS r.σ x) = some b → ∀ k, getP r.H (at_ b) = some k → BLow r.nx b k) : VLow r.nx r.v := by
  obtain ⟨x, hx⟩ := loadArg_some hk
  cases hbl : blkOf (evS r.σ x) with
  | none =>
    obtain ⟨u, _, g⟩ := load_at hst inv h hk (Nat.le_refl _) hl (fun x' b hx' hb' => by rw [hx] at hx'; cases hx'; rw [hbl] at hb'; cases hb')
    exact g.low below_upto
  | some b =>
    cases hg : getP r.H (at_ b) with
    | none =>
      obtain ⟨u, _, g⟩ := load_at hst inv h hk (Nat.le_refl _) hl (fun x' b' hx' hb' k hk' => by rw [hx] at hx'; cases hx'; rw [hbl] at hb'; cases hb'; rw [hg] at hk'; cases hk')
      exact g.low below_upto
    | some k =>
      obtain ⟨ρg, hpg, rg, q1, q2, q3⟩ := hb x b hx hbl k hg
      have hall : r.a.all fun y => VR ρg (evS r.σ y) (Classical.epsilon fun u => VR ρg (evS r.σ y) u) := by
        refine load_all (P := X.P) (T := .e) (L := []) (H := r.H) hk (fun k => hl _ _ k) (fun y hy => ?_) (fun y hy => Classical.epsilon_spec (p := fun u => VR ρg (evS r.σ y) u) ⟨_, .of_flat hy⟩)
        rw [hx] at hy
        cases hy
        have := loadArg_all (reads_all hst inv h) hx
        exact Classical.epsilon_spec (p := fun u => VR ρg (evS r.σ x) u) (ref_exists this.1 hbl q1)
      have h3 : lookT (r.a.map (Av (evS r.σ))) X.P .e [] (insP (at_ b) .e (some k)) kv0 = kv0 r.v := by
        rw [look_load (H := r.H) hk fun x' b' hx' hb' => ?_]
        · exact hl _ _ _
        · rw [hx] at hx'
          cases hx'
          rw [hbl] at hb'
          cases hb'
          rw [getP_insP, hg]
      obtain ⟨v, u, g1, _, g3⟩ := load_run (w := { w with heap := hpg }) (nx := r.nx) hk h.ok.comp hall (single_hr (m := r.nx) (hp := hpg) (fun k' hk' => by cases hk'; exact ⟨rg, q1, q2⟩) q3) (h3.trans rfl)
      have hv : v = r.v := by
        have e : kv0 v = kv0 r.v := g1
        unfold kv0 at e
        simp only [Option.some.injEq, Prod.mk.injEq, St.mk.injEq, Tr.n.injEq, true_and, and_true] at e
        exact e
      rw [hv] at g3
      exact g3.low q3

/-- whose number it is -/
theorem made_in (hst : Start X ρ0 w0) (inv : SInv X R ρ0 w0 S ρ c w) (hch : X.Ch R) {q : Rec} {b : Nat} {rr : Ref} (hq : q ∈ R) (h1 : q.nx ≤ b) (h2 : b < q.nx') (hb : ρ b = some rr) : S q.i := by
  obtain ⟨p, pq, e, k1, k2, k3⟩ := chain_split hch hq
  obtain ⟨l1, l2⟩ := chain_le hst.up k3 k2
  rcases inv.dom b rr hb with h3 | ⟨q2, hq2, hS, h3, h4⟩
  · omega
  · have hq2' := hq2
    rw [e] at hq2'
    rcases List.mem_append.1 hq2' with hm | hm
    · rw [e] at hch
      obtain ⟨p2, g1, g2, _, g4, g5⟩ := chain_post hch q2 hm
      have := ((chain_le hst.up g5 g4).2 q g2).1
      omega
    · rcases List.mem_cons.1 hm with rfl | hm
      · exact hS
      · have := (l2 q2 hm).1
        omega

theorem last_heavy : ∀ {post : List Rec}, (∃ q ∈ post, S q.i ∧ q.hv) → ∃ p1 q p2, post = p1 ++ q :: p2 ∧ S q.i ∧ q.hv ∧ ∀ x ∈ p1, ¬(S x.i ∧ x.hv) := by
  intro post
  induction post with
  | nil => rintro ⟨q, hq, _⟩; simp at hq
  | cons p post ih =>
    intro h
    by_cases hp : S p.i ∧ p.hv
    · exact ⟨[], p, post, rfl, hp.1, hp.2, fun x hx => by simp at hx⟩
    · obtain ⟨q, hq, hS⟩ := h
      rcases List.mem_cons.1 hq with rfl | hq
      · exact absurd hS hp
      · obtain ⟨p1, q', p2, e, g1, g2, g3⟩ := ih ⟨q, hq, hS⟩
        refine ⟨p :: p1, q', p2, by rw [e]; rfl, g1, g2, fun x hx => ?_⟩
        rcases List.mem_cons.1 hx with rfl | hx
        · exact hp
        · exact g3 x hx
end Go.Eng
/- The engine: regions whose order is drawn: one step, in any order. -/
namespace Go.Eng
variable {X : Cx} {S : Nat → Prop} {R post pre : List Rec} {r : Rec} {ρ0 ρ : Rho} {w0 w : World} {c : Act}

theorem writer_val (hone : oneDst X.ops = true) {l : List Rec} {σ : Sig} {D : List Dfd} {H : Heap} {nx : Nat} (hc : X.Ch l) (ha : X.At l σ D H nx) {p : Rec} {t : Nat} (hp : p ∈ l) (hd : p.o.dst = some t) : σ t = p.v := by
  rcases sigma_at hc ha t with ⟨q, hq, e1, e2⟩ | ⟨e1, _⟩
  · obtain ⟨_, _, _, k1, _⟩ := chain_split hc hp
    obtain ⟨_, _, _, k2, _⟩ := chain_split hc hq
    have := chain_uniq hc q hq p hp (one_at hone k2.op k1.op e1 hd)
    subst this
    exact e2
  · exact absurd hd (e1 p hp)

theorem wantS_congr {ops : List Oper} {σ σ' : Sig} {g : Option (Nat × Bool)} (h : ∀ j w q t, g = some (j, w) → ops[j]? = some q → q.dst = some t → σ' t = σ t) : wantS ops σ' g = wantS ops σ g := by
  cases g with
  | none => rfl
  | some p =>
    obtain ⟨j, want⟩ := p
    show (match (ops[j]?).bind (·.dst) with | some t => wantB want (σ' t) | none => false) = (match (ops[j]?).bind (·.dst) with | some t => wantB want (σ t) | none => false)
    cases hb : (ops[j]?).bind (·.dst) with
    | none => rfl
    | some t =>
      obtain ⟨q, hj, hd⟩ := Option.bind_eq_some_iff.1 hb
      show wantB want (σ' t) = wantB want (σ t)
      rw [h j want q t rfl hj hd]

theorem load_op (hst : Start X ρ0 w0) (inv : SInv X R ρ0 w0 S ρ c w) (h : Next X R S post pre r) (hk : kdOf r.a = .load) (hw : wantS X.ops r.σ r.o.guard = true) (hl : ∀ T L k, lookT (r.a.map (Av (evS r.σ))) X.P T L r.H k = k r.v) :
    ∃ u, (execOp c.eval r.o).run X.P w = .ok (.value u) w ∧ VR ρ r.v u ∧ VLow r.nx r.v := by
  obtain ⟨l1, l2⟩ := chain_le hst.up h.chp h.at
  have hld : isLoad (kdOf r.a) = true := by rw [hk]; rfl
  have hnh : ¬ r.hv := by unfold Rec.hv; rw [hk]; simp [isHeavy]
  have hpre : ∀ q ∈ pre, q.hv → S q.i := fun q hq hv => h.rd _ (h.ok.load hld q hq hv)
  have hpreb : ∀ x b, loadArg r.a = some x → blkOf (evS r.σ x) = some b → ∀ k, getP r.H (at_ b) = some k → Blocks S X.H0 pre b k ∧ BLow r.nx b k := by
    intro x b hx hb k hg
    obtain ⟨rr, hrr⟩ := ref_some (loadArg_all (reads_all hst inv h) hx).1 hb
    have h1 := heap_blocks h.chp h.at (b := b) (k := k) hpre (fun q hq _ hlt e => made_in hst inv h.ch (h.sub q hq) (by omega) (by omega) hrr) hg
    exact ⟨h1, blocks_low hst inv h.sub l1 (fun q hq => (l2 q hq).1) h1⟩
  have hlow : VLow r.nx r.v := load_low hst inv h hk hl fun x b hx hb k hg => (hpreb x b hx hb k hg).2
  by_cases hp : ∃ q ∈ post, S q.i ∧ q.hv
  · obtain ⟨p1, q, p2, e, hqS, hqv, hp1⟩ := last_heavy hp
    have eR : R = p1 ++ q :: (p2 ++ r :: pre) := by rw [h.eq, e]; simp
    have hqR : q ∈ R := by rw [eR]; simp
    have hch := h.ch
    rw [eR] at hch
    have hcq := chain_tail hch
    have hrm : r ∈ p2 ++ r :: pre := by simp
    have hbit : bit X.bef q.i r.i = false := by
      cases hb : bit X.bef q.i r.i with
      | false => rfl
      | true => exact absurd (h.cl q hqR hqS _ hb) h.not
    obtain ⟨done, hdone, q', a, t, e1, e2, e3, e4, e5⟩ := hcq.1.again hqv r hrm hld hbit
    rw [h.ok.op] at e1
    cases e1
    have ha := comp_nil h.ok.comp e2 hk
    subst ha
    have hat : X.At (q :: (p2 ++ r :: pre)) (q.σ.set q.o.dst q.v) q.D' q.H' q.nx' := ⟨rfl, rfl, rfl, rfl⟩
    -- the slots that it reads are as they were
    have hslot : ∀ t, t ∈ tmpsOf r.o → q.σ.set q.o.dst q.v t = r.σ t := by
      intro t ht
      rcases sigma_at hcq hat t with ⟨q1, hq1, d1, v1⟩ | ⟨n1, v1⟩
      · obtain ⟨_, _, _, k1, _⟩ := chain_split hcq hq1
        have hb : bit X.bef r.i q1.i = true := by
          rcases still_at e4 ht k1.op d1 with hb | hb
          · exact hb
          · rcases List.mem_cons.1 hq1 with rfl | hq1'
            · rcases hyg_at h.ok.hyg ht k1.op d1 with hb' | hb'
              · exact hb'
              · rw [hbit] at hb'; cases hb'
            · rw [(hdone q1.i).2 ⟨q1, hq1', rfl⟩] at hb; cases hb
        obtain ⟨p, hp, hi⟩ := h.ok.befs _ hb
        have hq1R : q1 ∈ R := by
          rw [eR]
          exact List.mem_append.2 (.inr hq1)
        have := chain_uniq h.ch p (h.sub p hp) q1 hq1R hi
        subst this
        rw [v1]
        exact (writer_val h.one h.chp h.at hp d1).symm
      · rcases sigma_at h.chp h.at t with ⟨q2, hq2, d2, _⟩ | ⟨_, v2⟩
        · exact absurd d2 (n1 q2 (by simp [hq2]))
        · rw [v1, v2]
    have hguard : wantS X.ops (q.σ.set q.o.dst q.v) r.o.guard = wantS X.ops r.σ r.o.guard := by
      refine wantS_congr fun j want qq t hg hj hd => ?_
      obtain ⟨p, hp, hi⟩ := h.ok.befs _ (h.ok.grd j want hg)
      obtain ⟨_, _, _, k1, _⟩ := chain_split h.chp hp
      have ho : p.o = qq := by
        have := k1.op
        rw [hi, hj] at this
        exact (Option.some.inj this).symm
      rw [← ho] at hd
      rw [writer_val h.one hcq hat (by simp [hp]) hd, writer_val h.one h.chp h.at hp hd]
    have hmap : r.a.map (Av (evS (q.σ.set q.o.dst q.v))) = r.a.map (Av (evS r.σ)) := by
      refine map_congr (all_mono (fun x hx => ?_) (comp_operands h.ok.comp))
      cases x with
      | tmp t =>
        show Od.cst (q.σ.set q.o.dst q.v t) = Od.cst (r.σ t)
        rw [hslot t (List.mem_filterMap.2 ⟨_, hx, rfl⟩)]
      | _ => rfl
    obtain ⟨u, hlu, hveq⟩ := e5 (hguard.trans hw)
    rw [writer_val h.one hcq hat (List.mem_cons_of_mem _ hrm) e3] at hveq
    have := veq_sound hveq
    subst this
    rw [hmap] at hlu
    have hle : r.nx ≤ q.nx' := by
      have g1 := h.le hst.up
      have g2 := ((chain_le hst.up hcq.2.2 hcq.2.1).2 r hrm).1
      have g3 := rec_up hst.up hcq.1
      omega
    obtain ⟨u, g1, g2⟩ := load_at hst inv h hk hle hlu fun x b hx hb k hg => by
      have hB : Blocks S X.H0 R b k := by
        rw [eR]
        exact blocks_skip hp1 (.inl ⟨hqS, hqv, hg⟩)
      obtain ⟨rr, q1, q2⟩ := inv.blk b k hB
      exact ⟨rr, q1, q2, inv.hlow q hqR hqS hqv b k hg⟩
    exact ⟨u, g1, g2.mono upto_ext, hlow⟩
  · have hno : ∀ q ∈ post, ¬(S q.i ∧ q.hv) := fun q hq g => hp ⟨q, hq, g⟩
    obtain ⟨u, g1, g2⟩ := load_at hst inv h hk (Nat.le_refl _) hl fun x b hx hb k hg => by
      obtain ⟨h1, h2⟩ := hpreb x b hx hb k hg
      have hB : Blocks S X.H0 R b k := by
        rw [h.eq]
        exact blocks_skip hno (.inr (.inr ⟨fun g => hnh g.2, h1⟩))
      obtain ⟨rr, q1, q2⟩ := inv.blk b k hB
      exact ⟨rr, q1, q2, h2⟩
    exact ⟨u, g1, g2.mono upto_ext, hlow⟩

/-- the slots that an operation reads -/
def readsOf (ops : List Oper) (o : Oper) : List Nat := tmpsOf o ++ (match o.guard with
  | some (j, _) => ((ops[j]?).bind (·.dst)).toList
  | none => [])

theorem env_filtered {env : Env} {T : Tr Value} {L : List Value} {b : AOp Od} {g : Option (Nat × Bool)} (hst : Start X ρ0 w0) (inv : SInv X R ρ0 w0 S ρ c w) (h : Next X R S post pre r) (ht : r.a.trav (cv X.kept X.n env) = some b) (hg : guardC X.ops env r.o.guard = some g)
    (hE : EnvS X.kept r.σ env T L) (hdom : ∀ t od, (t, od) ∈ env → ∃ q ∈ pre, q.o.dst = some t) :
    ∃ kept' env', r.a.trav (cv kept' X.n env') = some b ∧ guardC X.ops env' r.o.guard = some g ∧ EnvR (ρ.upto r.nx) kept' X.n env' T L c := by
  refine ⟨X.kept.filter (isIn (readsOf X.ops r.o)), env.filter (fun p => isIn (readsOf X.ops r.o) p.1), ?_, ?_, ?_⟩
  · rw [← ht]
    refine trav_congr (all_mono (fun x hx => ?_) (comp_operands h.ok.comp))
    cases x with
    | tmp t =>
      have hm : isIn (readsOf X.ops r.o) t = true := isIn_mem.2 (List.mem_append.2 (.inl (List.mem_filterMap.2 ⟨_, hx, rfl⟩)))
      simp only [cv]
      rw [find_filter hm, isIn_filter hm]
    | _ => rfl
  · rw [← hg]
    cases hgd : r.o.guard with
    | none => rfl
    | some p =>
      obtain ⟨j, want⟩ := p
      simp only [guardC]
      cases hj : X.ops[j]? with
      | none => rfl
      | some q =>
        simp only
        cases hd : q.dst with
        | none => rfl
        | some t =>
          have hm : isIn (readsOf X.ops r.o) t = true := isIn_mem.2 (List.mem_append.2 (.inr (by simp [hgd, hj, hd])))
          simp only
          rw [find_filter hm]
  · have key : ∀ t, isIn (readsOf X.ops r.o) t = true → ((∃ q ∈ pre, q.o.dst = some t) ∨ isIn X.kept t = true) → VR (ρ.upto r.nx) (r.σ t) (c.tmps.getD t undef) := by
      intro t hm hk
      have hv : VR ρ (r.σ t) (c.tmps.getD t undef) ∧ VLow r.nx (r.σ t) := by
        rcases List.mem_append.1 (isIn_mem.1 hm) with hm | hm
        · exact reads_tmp hst inv h hm hk
        · cases hgd : r.o.guard with
          | none => rw [hgd] at hm; simp at hm
          | some p =>
            obtain ⟨j, want⟩ := p
            rw [hgd] at hm
            simp only [Option.mem_toList] at hm
            obtain ⟨q, hj, hd⟩ := Option.bind_eq_some_iff.1 hm
            exact reads_guard hst inv h hgd hj hd
      exact hv.2.cut hv.1
    refine ⟨inv.size, fun t od hf => ?_, fun t hk => ?_⟩
    · have hm := find_mem hf
      rw [List.mem_filter] at hm
      rw [hE.env t od hm.1]
      exact key t hm.2 (.inl (hdom t od hm.1))
    · have hk' := isIn_mem.1 hk
      rw [List.mem_filter] at hk'
      rw [hE.kept t (isIn_mem.2 hk'.1)]
      exact key t hk'.2 (.inr (isIn_mem.2 hk'.1))

/-- one operation, in any order -/
theorem draw_step (hst : Start X ρ0 w0) (hcall : CallOk X.P X.rn) (hins : InsOk X.P X.ins) (inv : SInv X R ρ0 w0 S ρ c w) (h : Next X R S post pre r) {next : Act → World → Prop} {Q : Exit → Act → World → Prop}
    (hn : ∀ ρ' c' w', SInv X R ρ0 w0 (More S r) ρ' c' w' → next c' w') :
    (if Region.wanted r.o (yielded X.ops.toArray c.tmps) then r.o.wp X.P c w next Q ∨ (r.o.asks X.P c w ∧ LetsOut Q) else next (c.put r.o.dst undef) w) := by
  obtain ⟨env, T, L, b, g, ht, hg, hE, hdom, hs⟩ := h.ok.step
  by_cases hh : r.hv
  · obtain ⟨kept', env', ht', hg', hR⟩ := env_filtered hst inv h ht hg hE hdom
    refine step_run hst.eq hcall hins h.ok.comp ht' hg' hR (heavy_dfr hst inv h hh).1 (heavy_hr hst inv h hh) hs fun ρ' u w' c' hv hw hD hc => ?_
    obtain ⟨ρ2, hi⟩ := inv_heavy hst inv h hh hv hw hD hc
    exact hn ρ2 _ w' hi
  · rw [draw_guard hst inv h, ← guard_S hg hE]
    have hall := reads_all hst inv h
    have hwS := guard_S hg hE
    have hP := hst.eq
    have hu := hst.up
    generalize hv : r.v = v at hs
    generalize hDd : r.D' = D' at hs
    generalize hH : r.H' = H' at hs
    generalize hx : r.nx' = nx' at hs
    cases hs with
    | alias od hb hm hg0 =>
      rw [hb] at ht
      obtain ⟨x, hax, hcx⟩ := trav_mov ht
      have hw : wanted L g = true := by rw [hg0]; rfl
      rw [if_pos hw]
      refine .inl ?_
      unfold Oper.wp
      rw [move_run hm h.ok.comp hax]
      rw [hax] at hall
      have hvx : r.v = evS r.σ x := hv.trans (cv_S hE hcx)
      refine hn ρ _ w (quiet_light inv h hh (fun _ => by omega) (.refl w) ?_ ?_ rfl rfl)
      · rw [hvx]; exact hall.1
      · rw [hvx, hx]; exact hall.2
    | over hw =>
      rw [hw, if_neg (by simp)]
      exact hn ρ _ w (quiet_light inv h hh (fun _ => by omega) (.refl w) (by rw [hv]; exact VR.undef) (by rw [hv]; exact VLow.none) rfl rfl)
    | did hw _ _ _ _ hd hdd =>
      rw [hw, if_pos rfl]
      refine .inl ?_
      unfold Oper.wp
      have hkb : kdOf b = kdOf r.a := kdOf_trav (.loc 0) ht
      have hact := did_act (plain_of_kd (by rw [hkb]; exact hh)) hd
      rw [hP] at hact
      cases hk : kdOf r.a with
      | pure => exact pure_run hst inv h ht hE hk (by rw [hv, hH, hx]; exact hact) hn
      | make => exact make_run hst inv h ht hE hk (by rw [hv, hH, hx]; exact hact) hn
      | heavy => exact absurd (show r.hv by unfold Rec.hv; rw [hk]; rfl) hh
      | load =>
        obtain ⟨e1, e2, e3, _⟩ := act_load (hkb.trans hk) hact
        obtain ⟨u, g1, g2, g3⟩ := load_op hst inv h hk (hwS.symm.trans hw) (by rw [hv]; exact look_S ht hE e3)
        rw [g1]
        refine hn ρ _ w (quiet_light inv h hh (fun hm => ?_) (.refl w) g2 ?_ rfl rfl)
        · omega
        · rw [hx, e2]; exact g3
end Go.Eng
/- The engine: regions whose order is drawn, as a whole. -/
namespace Go.Eng
variable {X : Cx} {S : Nat → Prop} {R post pre : List Rec} {r : Rec} {ρ0 ρ : Rho} {w0 w : World} {c : Act}

/-! ### what each operation is behind -/
theorem fold_bit {acc : List Nat} {j : Nat} : ∀ (l : List Edge) (s : Nat), Nat.testBit (l.foldl (fun s e => bif Region.binds .any e then s ||| 2 ^ e.on ||| acc.getD e.on 0 else s) s) j = true ↔
    Nat.testBit s j = true ∨ ∃ e ∈ l, Region.binds .any e = true ∧ (j = e.on ∨ Nat.testBit (acc.getD e.on 0) j = true) := by
  intro l
  induction l with
  | nil => intro s; simp
  | cons e l ih =>
    intro s
    rw [List.foldl_cons, ih]
    cases hb : Region.binds .any e with
    | false =>
      simp only [cond_false, List.mem_cons, exists_eq_or_imp, hb, Bool.false_eq_true, false_and, false_or]
    | true =>
      simp only [cond_true, List.mem_cons, exists_eq_or_imp, hb, true_and]
      rw [Nat.testBit_or, Bool.or_eq_true, bit_or]
      constructor
      · rintro ((h | h) | h)
        · rcases h with h | h
          · exact .inl h
          · exact .inr (.inl (.inl h))
        · exact .inr (.inl (.inr h))
        · exact .inr (.inr h)
      · rintro (h | h)
        · exact .inl (.inl (.inl h))
        · rcases h with (h | h) | h
          · exact .inl (.inl (.inr h))
          · exact .inl (.inr h)
          · exact .inr h

def before1 (acc : List Nat) (o : Oper) : Nat := o.after.toList.foldl (fun s e => bif Region.binds .any e then s ||| 2 ^ e.on ||| acc.getD e.on 0 else s) 0

theorem befores_from : ∀ (ops : List Oper) (acc : List Nat), ∃ l, ops.foldl (fun acc o => acc ++ [before1 acc o]) acc = acc ++ l ∧ l.length = ops.length ∧
    ∀ i o, ops[i]? = some o → l[i]? = some (before1 (acc ++ l.take i) o) := by
  intro ops
  induction ops with
  | nil => intro acc; exact ⟨[], by simp, rfl, fun i o h => by simp at h⟩
  | cons o ops ih =>
    intro acc
    obtain ⟨l, h1, h2, h3⟩ := ih (acc ++ [before1 acc o])
    refine ⟨before1 acc o :: l, by rw [List.foldl_cons, h1]; simp, by simp [h2], fun i q h => ?_⟩
    cases i with
    | zero =>
      simp at h
      subst h
      simp
    | succ i =>
      simp only [List.getElem?_cons_succ] at h ⊢
      rw [h3 i q h]
      simp

theorem bef_bit {ops : List Oper} {i j : Nat} {o : Oper} (ho : ops[i]? = some o) : bit (befores ops) i j = true ↔ ∃ e ∈ o.after.toList, Region.binds .any e = true ∧ (j = e.on ∨ (e.on < i ∧ bit (befores ops) e.on j = true)) := by
  obtain ⟨l, h1, h2, h3⟩ := befores_from ops []
  have hb : befores ops = l := by
    have : befores ops = ops.foldl (fun acc o => acc ++ [before1 acc o]) [] := rfl
    rw [this, h1]
    simp
  have hi := h3 i o ho
  unfold bit
  rw [hb]
  have hg : l.getD i 0 = before1 (l.take i) o := by
    rw [List.getD_eq_getElem?_getD, hi]
    simp
  rw [hg]
  unfold before1
  rw [fold_bit]
  have ht : ∀ k, (l.take i).getD k 0 = if k < i then l.getD k 0 else 0 := by
    intro k
    rw [List.getD_eq_getElem?_getD, List.getD_eq_getElem?_getD, List.getElem?_take]
    split <;> simp
  constructor
  · rintro (h | ⟨e, he, hbd, h⟩)
    · simp at h
    · refine ⟨e, he, hbd, h.imp id fun h => ?_⟩
      rw [ht] at h
      split at h
      · exact ⟨by assumption, h⟩
      · simp at h
  · rintro ⟨e, he, hbd, h⟩
    refine .inr ⟨e, he, hbd, h.imp id fun h => ?_⟩
    rw [ht, if_pos h.1]
    exact h.2

/-- what all of these are behind, is among them -/
theorem bef_closed {ops : List Oper} {S : Nat → Prop} (h : ∀ i o, S i → ops[i]? = some o → ∀ e ∈ o.after.toList, Region.binds .any e = true → S e.on) (hin : ∀ i, S i → ∃ o, ops[i]? = some o) :
    ∀ i o, ops[i]? = some o → (∀ e ∈ o.after.toList, Region.binds .any e = true → S e.on) → ∀ j, bit (befores ops) i j = true → S j := by
  intro i
  induction i using Nat.strongRecOn with
  | _ i ih =>
    intro o ho ha j hj
    obtain ⟨e, he, hbd, h1⟩ := (bef_bit ho).1 hj
    rcases h1 with rfl | ⟨hlt, h1⟩
    · exact ha e he hbd
    · have hS := ha e he hbd
      obtain ⟨o', ho'⟩ := hin _ hS
      exact ih e.on hlt o' ho' (fun e' he' hb' => h _ _ hS ho' e' he' hb') j h1

/-- all has been done -/
theorem draw_done {T' : Tr Value} {σ' : Sig} {D' : List Dfd} {H' : Heap} {nx' : Nat} (hst : Start X ρ0 w0) (inv : SInv X R ρ0 w0 S ρ c w) (hch : X.Ch R) (hat : X.At R σ' D' H' nx') (hT : ∀ t, isIn X.kept t = true → (getP T' (slotPath t)).getD undef = σ' t) (hall : ∀ q ∈ R, S q.i) :
    OutR ρ0 X.H0 X.nx0 w0 X.kept X.n (.normal, ⟨T', D', H', nx'⟩) .normal c w := by
  obtain ⟨l1, l2⟩ := chain_le hst.up hch hat
  have hB : ∀ b k, getP H' (at_ b) = some k → Blocks S X.H0 R b k := fun b k hb => heap_blocks hch hat (fun q hq _ => hall q hq) (fun q hq _ _ _ => hall q hq) hb
  refine ⟨ρ, ⟨⟨fun b k hb => inv.blk b k (hB b k hb), fun b b' k k' s s' hb hb' hs hs' e => inv.inj b b' k k' s s' (hB _ _ hb) (hB _ _ hb') hs hs' e, fun b hb => ?_⟩,
    ⟨inv.ext, ?_, inv.frame, inv.wsize, inv.os, inv.tape, inv.output⟩, l1, inv.low⟩, ⟨⟨inv.size, fun t od h => by simp [find] at h, fun t ht => ?_⟩, ?_⟩, trivial⟩
  · cases hr : ρ b with
    | none => rfl
    | some s =>
      exfalso
      have hb' : nx' ≤ b := hb
      rcases inv.dom b s hr with h1 | ⟨q, hq, _, _, h1⟩
      · omega
      · have := (l2 q hq).1
        omega
  · rintro k ⟨b, x, s, hb, hs, rfl⟩
    exact inv.own b x s (hB b x hb) hs
  · show VR ρ ((getP T' (slotPath t)).getD undef) _
    rw [hT t ht]
    rcases sigma_at hch hat t with ⟨q, hq, d, v⟩ | ⟨n, v⟩
    · rw [v]; exact inv.val q hq (hall q hq) t d
    · rw [v]; exact inv.kep t ht fun q hq _ => n q hq
  · obtain ⟨D, g1, g2⟩ := inv.dfr
    have := dat_uniq g1 (dat_at hch hat fun q hq _ => hall q hq)
    rw [this] at g2
    exact g2

theorem SInv.congr {S' : Nat → Prop} (h : ∀ i, S' i ↔ S i) (inv : SInv X R ρ0 w0 S ρ c w) : SInv X R ρ0 w0 S' ρ c w := by
  have : S' = S := funext fun i => propext (h i)
  rw [this]
  exact inv

/-- all orders -/
theorem draw_any {Q : Exit → Act → World → Prop} (hst : Start X ρ0 w0) (hcall : CallOk X.P X.rn) (hins : InsOk X.P X.ins) (hch : X.Ch R) (hone : oneDst X.ops = true) (hbef : X.bef = befores X.ops) (hR : ∀ i o, X.ops[i]? = some o → ∃ q ∈ R, q.i = i)
    (hfin : ∀ S ρ c w, SInv X R ρ0 w0 S ρ c w → (∀ q ∈ R, S q.i) → Q .normal c w) : ∀ (fuel : Nat) (rest : List Nat) (listed : Array Bool) (ρ : Rho) (c : Act) (w : World), rest.Nodup → rest.length = fuel → listed.size = X.ops.length →
      (∀ i, i < X.ops.length → (listed.getD i true = false ↔ i ∈ rest)) → (∀ i ∈ rest, i < X.ops.length) → (∀ i o, listed.getD i false = true → X.ops[i]? = some o → ∀ e ∈ o.after.toList, Region.binds .any e = true → listed.getD e.on false = true) →
      SInv X R ρ0 w0 (fun i => listed.getD i false = true) ρ c w → wpAny X.P .any X.ops.toArray Q fuel listed c w := by
  -- where nothing is ready, all has been done
  have hready : ∀ (listed : Array Bool), listed.size = X.ops.length → Region.ready .any X.ops.toArray listed = [] → ∀ q ∈ R, listed.getD q.i false = true := by
    intro listed hsz hno
    have key : ∀ l : List Rec, X.Ch l → (∀ q ∈ l, q ∈ R) → ∀ q ∈ l, listed.getD q.i false = true := by
      intro l
      induction l with
      | nil => intro _ _ q hq; simp at hq
      | cons p l ih =>
        intro hc hl q hq
        rcases List.mem_cons.1 hq with rfl | hq
        · cases hb : listed.getD q.i false with
          | true => rfl
          | false =>
            exfalso
            have hlt : q.i < X.ops.length := (List.getElem?_eq_some_iff.1 hc.1.op).1
            have hm : q.i ∈ Region.ready .any X.ops.toArray listed := by
              refine mem_ready.2 ⟨?_, q.o, by simpa using hc.1.op, fun e he hbd => ?_⟩
              · have hlt' : q.i < listed.size := by omega
                simp only [Array.getD_eq_getD_getElem?, Array.getElem?_eq_getElem hlt', Option.getD_some] at hb ⊢
                exact hb
              · have hbit : bit X.bef q.i e.on = true := by
                  rw [hbef]
                  exact (bef_bit hc.1.op).2 ⟨e, Array.mem_def.1 he, hbd, .inl rfl⟩
                obtain ⟨p, hp, hi⟩ := hc.1.befs _ hbit
                rw [← hi]
                exact ih hc.2.2 (fun x hx => hl x (List.mem_cons_of_mem _ hx)) p hp
            rw [hno] at hm
            simp at hm
        · exact ih hc.2.2 (fun x hx => hl x (List.mem_cons_of_mem _ hx)) q hq
    exact key R hch fun q hq => hq
  intro fuel
  induction fuel with
  | zero =>
    intro rest listed ρ c w hnd hlen hsz hin hlt hcl inv
    have hr0 : rest = [] := List.eq_nil_of_length_eq_zero hlen
    subst hr0
    have hno : Region.ready .any X.ops.toArray listed = [] := by
      cases hrd : Region.ready .any X.ops.toArray listed with
      | nil => rfl
      | cons j l =>
        exfalso
        have hj : j ∈ Region.ready .any X.ops.toArray listed := by rw [hrd]; exact List.mem_cons_self
        obtain ⟨h1, o, h2, _⟩ := mem_ready.1 hj
        have hjl : j < X.ops.length := by
          have := (Array.getElem?_eq_some_iff.1 h2).1
          simpa using this
        have := (hin j hjl).1 h1
        simp at this
    exact ⟨hno, hfin _ ρ c w inv (hready listed hsz hno)⟩
  | succ fuel ih =>
    intro rest listed ρ c w hnd hlen hsz hin hlt hcl inv
    refine ⟨fun hno => hfin _ ρ c w inv (hready listed hsz hno), fun i hi => ?_⟩
    obtain ⟨h1, o, h2, h3⟩ := mem_ready.1 hi
    have ho : X.ops[i]? = some o := by simpa using h2
    have hil : i < X.ops.length := (List.getElem?_eq_some_iff.1 ho).1
    obtain ⟨r, hr, rfl⟩ := hR i o ho
    obtain ⟨post, pre, e, k1, k2, k3⟩ := chain_split hch hr
    have hro : r.o = o := by
      have := k1.op
      rw [ho] at this
      exact (Option.some.inj this).symm
    have hnl : ¬ listed.getD r.i false = true := by
      have hlt' : r.i < listed.size := by omega
      simp only [Array.getD_eq_getD_getElem?, Array.getElem?_eq_getElem hlt', Option.getD_some] at h1 ⊢
      simp [h1]
    have hexists : ∀ j, listed.getD j false = true → ∃ o, X.ops[j]? = some o := by
      intro j hj
      have hjs : j < listed.size := by
        rcases Nat.lt_or_ge j listed.size with h | h
        · exact h
        · rw [Array.getD_eq_getD_getElem?, Array.getElem?_eq_none h] at hj; simp at hj
      exact ⟨X.ops[j]'(by omega), List.getElem?_eq_getElem (by omega)⟩
    have hnx : Next X R (fun i => listed.getD i false = true) post pre r := by
      refine ⟨e, hch, hone, hnl, fun q hq hS j hj => ?_, fun j hj => ?_⟩
      · obtain ⟨_, _, _, g1, _⟩ := chain_split hch hq
        rw [hbef] at hj
        exact bef_closed hcl hexists q.i q.o g1.op (hcl q.i q.o hS g1.op) j hj
      · rw [hbef] at hj
        exact bef_closed hcl hexists r.i o ho (fun e he hbd => h3 e (Array.mem_def.2 he) hbd) j hj
    have hop : X.ops.toArray[r.i]? = some r.o := by rw [hro]; exact h2
    unfold wpOp
    rw [hop]
    refine draw_step hst hcall hins inv hnx fun ρ' c' w' inv' => ?_
    have hset : ∀ j, (listed.setIfInBounds r.i true).getD j false = true ↔ More (fun i => listed.getD i false = true) r j := by
      intro j
      by_cases hj : r.i = j
      · subst hj
        have hlt' : r.i < listed.size := by omega
        constructor
        · intro _; exact .inr rfl
        · intro _
          simp [hlt']
      · rw [getD_set_ne false hj]
        constructor
        · intro h; exact .inl h
        · rintro (h | h)
          · exact h
          · exact absurd h.symm hj
    have hri : r.i ∈ rest := (hin r.i hil).1 h1
    refine ih (rest.erase r.i) _ ρ' c' w' (hnd.erase _) (by rw [List.length_erase_of_mem hri]; omega) (by simpa using hsz) (fun j hj => ?_) (fun j hj => hlt j (List.mem_of_mem_erase hj)) (fun j q hj hq e he hbd => ?_) (inv'.congr hset)
    · rw [hnd.mem_erase_iff]
      by_cases hjr : r.i = j
      · subst hjr
        have hlt' : r.i < listed.size := by omega
        simp [hlt']
      · rw [getD_set_ne true hjr, hin j hj]
        exact ⟨fun h => ⟨fun e => hjr e.symm, h⟩, fun h => h.2⟩
    · rw [hset] at hj
      rw [hset]
      rcases hj with hj | rfl
      · exact .inl (hcl j q hj hq e he hbd)
      · rw [ho] at hq
        cases hq
        exact .inl (h3 e (Array.mem_def.2 he) hbd)

theorem blocks_none {H0 : Heap} {b : Nat} {k : Blk} : ∀ {R : List Rec}, Blocks (fun _ => False) H0 R b k → getP H0 (at_ b) = some k := by
  intro R
  induction R with
  | nil => intro h; exact h
  | cons q R ih =>
    rintro (⟨h, _⟩ | ⟨h, _⟩ | ⟨_, h⟩)
    · exact h.elim
    · exact h.elim
    · exact ih h
theorem dat_none {D0 : List Dfd} : ∀ {R : List Rec}, Dat (fun _ => False) D0 R D0 := by
  intro R
  induction R with
  | nil => rfl
  | cons q R ih => exact .inr ⟨fun g => g.1, ih⟩

theorem draw_ok {P : Program} {ins kept : List Nat} {n : Nat} {A : AProg} {rn : Run} {id : Nat} {ops : Array Oper} {l : List (AO × List Again)} (hA : A.P = P) (hcall : CallOk P rn) (hins : InsOk P ins) (hup : UpRun rn) (hm : P.follows .mixedOrders = true) (h : compileOps P ins kept n true ops.toList = some l) :
    CodeOk P ins kept n (cDraw A rn l) (.region id ops true) := by
  intro T D H nx o hr ρ a w hH ha
  unfold compileOps at h
  simp only [cond_true, Option.map_eq_some_iff] at h
  obtain ⟨s', hs, rfl⟩ := h
  obtain ⟨hone, hs⟩ := bif_both hs
  obtain ⟨s, hs1, hs2⟩ := Option.bind_eq_some_iff.1 hs
  obtain ⟨hall, hs2⟩ := bif_both hs2
  cases hs2
  obtain ⟨o1, hr1, hr2⟩ := bd_eq (show bd (runOps A rn s'.out.reverse T [] D H nx) drawK = some o from hr)
  obtain ⟨rfl, hnorm⟩ := drawK_eq hr2
  obtain ⟨new, hout, htr⟩ := lay_trace (A := A) (rn := rn) (σ0 := fun t => (getP T (slotPath t)).getD undef) (D0 := D) (H0 := H) (nx0 := nx) hA _ _ _ hs1
  have hn : s'.out.reverse = new := by rw [hout]; simp [laid0]
  rw [hn] at hr1
  obtain ⟨R, T', σ', D', H', nx', q1, q2, q3, q4, q5⟩ := htr [] T [] D H nx _ (fun t => (getP T (slotPath t)).getD undef) hr1 ⟨fun t od h => by simp [laid0] at h, fun t _ => rfl⟩
    ⟨fun j => by simp [laid0], fun q hq => by simp at hq, fun q hq => by simp at hq, fun q hq => by simp at hq, fun j hj => by simp [laid0] at hj, fun t od h => by simp [laid0] at h⟩ trivial ⟨rfl, rfl, rfl, rfl⟩ (fun ch e => by rw [hnorm] at e; cases e)
  let X : Cx := ⟨P, A, rn, ins, kept, n, ops.toList, befores ops.toList, fun t => (getP T (slotPath t)).getD undef, D, H, nx⟩
  let w1 : World := { w with drawn := w.drawn + 1 }
  have hst : Start X ρ w1 := ⟨hH, fun t ht => ⟨ρ, _, ha.env.kept t ht, hH.new⟩, ⟨ρ, _, ha.dfr, hH.new⟩, hup, hA⟩
  have hinit : SInv X R ρ w1 (fun _ => False) ρ a w1 := by
    refine ⟨fun b r hb => ?_, ha.env.size, fun q hq h => h.elim, fun q hq h => h.elim, fun t ht _ => ha.env.kept t ht, fun b k hb => hH.blk b k (blocks_none hb), fun b b' k k' s s' hb hb' hs hs' e => hH.inj b b' k k' s s' (blocks_none hb) (blocks_none hb') hs hs' e,
      fun q hq h => h.elim, fun q hq h => h.elim, ⟨D, dat_none, ha.dfr⟩, fun q hq h => h.elim, .refl ρ, fun _ _ => rfl, fun b k s hb hs => .inl ⟨b, k, s, blocks_none hb, hs, rfl⟩, fun _ _ _ => rfl, Nat.le_refl _, rfl, rfl, rfl⟩
    rcases Nat.lt_or_ge b nx with h1 | h1
    · exact .inl h1
    · rw [hH.new b h1] at hb; cases hb
  refine wp_region_any hm ?_
  have hsz : ops.size = ops.toList.length := by simp
  have hrep : ∀ i, (Array.replicate ops.size false).getD i false = false := by
    intro i
    rw [Array.getD_eq_getD_getElem?, Array.getElem?_replicate]
    split <;> rfl
  have := draw_any (X := X) (R := R) (ρ0 := ρ) (w0 := w1) (Q := OutR ρ H nx w kept n o1) hst hcall hins q2 hone rfl (fun i q hq => ?_) (fun S ρ' c w' inv hS => ?_) ops.size (List.range ops.size) (Array.replicate ops.size false) ρ a w1 List.nodup_range (by simp) (by simp [X]) (fun i hi => ?_) (fun i hi => ?_) (fun i q hi => ?_) (hinit.congr fun i => by rw [hrep]; simp)
  · have e : X.ops.toArray = ops := by simp [X]
    rw [e] at this
    exact this
  · have hi : i < ops.toList.length := (List.getElem?_eq_some_iff.1 hq).1
    have := List.all_eq_true.1 hall i (List.mem_range.2 hi)
    exact (q1.done i).1 this
  · have hd := draw_done hst inv q2 q3 q4 hS
    rw [q5]
    exact OutR.trans (w1 := w1) ⟨hH, .drew ρ H w (w.drawn + 1), Nat.le_refl _, fun _ _ => rfl⟩ hd
  · have hi' : i < ops.size := by simpa [X] using hi
    rw [List.mem_range]
    refine ⟨fun _ => hi', fun _ => ?_⟩
    rw [Array.getD_eq_getD_getElem?, Array.getElem?_replicate, if_pos hi']
    rfl
  · rw [List.mem_range] at hi
    simpa [X] using hi
  · rw [hrep] at hi
    cases hi
end Go.Eng
/- The engine: what a function gives back. -/
namespace Go.Eng

theorem Sem.bind_pure' {α : Type} (x : Sem α) : Sem.bind x Sem.pure = x := by
  induction x with
  | pure a => rfl
  | halt h => rfl
  | load m a k ih => exact congrArg (Sem.load m a) (funext ih)
  | store m a v k ih => exact congrArg (Sem.store m a v) ih
  | new o k ih => exact congrArg (Sem.new o) (funext ih)
  | shape r k ih => exact congrArg (Sem.shape r) (funext ih)
  | freeze a n k ih => exact congrArg (Sem.freeze a n) ih
  | frozen a k ih => exact congrArg (Sem.frozen a) (funext ih)
  | getObj r k ih => exact congrArg (Sem.getObj r) (funext ih)
  | setObj r o k ih => exact congrArg (Sem.setObj r o) ih
  | choose q k ih => exact congrArg (Sem.choose q) (funext ih)
  | sys c k ih => exact congrArg (Sem.sys c) (funext ih)
  | program k ih => exact congrArg Sem.program (funext ih)
  | mark m k ih => exact congrArg (Sem.mark m) ih

theorem Sem.bind_assoc' {α β γ : Type} (x : Sem α) (f : α → Sem β) (g : β → Sem γ) : Sem.bind (Sem.bind x f) g = Sem.bind x fun a => Sem.bind (f a) g := by
  induction x with
  | pure a => rfl
  | halt h => rfl
  | load m a k ih => exact congrArg (Sem.load m a) (funext ih)
  | store m a v k ih => exact congrArg (Sem.store m a v) ih
  | new o k ih => exact congrArg (Sem.new o) (funext ih)
  | shape r k ih => exact congrArg (Sem.shape r) (funext ih)
  | freeze a n k ih => exact congrArg (Sem.freeze a n) ih
  | frozen a k ih => exact congrArg (Sem.frozen a) (funext ih)
  | getObj r k ih => exact congrArg (Sem.getObj r) (funext ih)
  | setObj r o k ih => exact congrArg (Sem.setObj r o) ih
  | choose q k ih => exact congrArg (Sem.choose q) (funext ih)
  | sys c k ih => exact congrArg (Sem.sys c) (funext ih)
  | program k ih => exact congrArg Sem.program (funext ih)
  | mark m k ih => exact congrArg (Sem.mark m) ih

theorem Sem.lawful : LawfulMonad Sem := LawfulMonad.mk' Sem (fun x => Sem.bind_pure' x) (fun _ _ => rfl) (fun x f g => Sem.bind_assoc' x f g)

variable {P : Program} {w : World}

theorem run_mapML {α β : Type} {f : α → Sem β} : ∀ {l : List α} {r : List β}, l.length = r.length → (∀ (i : Nat) (x : α) (y : β), l[i]? = some x → r[i]? = some y → (f x).run P w = .ok y w) → (l.mapM f).run P w = .ok r w := by
  haveI := Sem.lawful
  intro l
  induction l with
  | nil =>
    intro r hl _
    cases r with
    | nil => rfl
    | cons => simp at hl
  | cons x l ih =>
    intro r hl h
    cases r with
    | nil => simp at hl
    | cons y r =>
      have h0 := h 0 x y rfl rfl
      have h1 := ih (by simpa using hl) fun i x y hx hy => h (i + 1) x y (by simpa using hx) (by simpa using hy)
      rw [List.mapM_cons]
      simp only [Sem.run_bind, h0, Result.andThen_ok, h1, Sem.run_pure]

theorem run_mapMA {α β : Type} {f : α → Sem β} {l : Array α} {r : List β} (hl : l.toList.length = r.length) (h : ∀ (i : Nat) (x : α) (y : β), l.toList[i]? = some x → r[i]? = some y → (f x).run P w = .ok y w) : (l.mapM f).run P w = .ok ⟨r⟩ w := by
  haveI := Sem.lawful
  rw [Array.mapM_eq_mapM_toList]
  have := run_mapML hl h
  show (Sem.bind (l.toList.mapM f) fun a => Sem.pure a.toArray).run P w = _
  rw [show (Sem.bind (l.toList.mapM f) fun a => Sem.pure a.toArray) = (do let a ← l.toList.mapM f; pure a.toArray) from rfl]
  simp only [Sem.run_bind, this, Result.andThen_ok, Sem.run_pure]

variable {ρ : Rho} {T : Tr Value} {H : Heap} {nx : Nat} {kept : List Nat} {n : Nat} {a : Act}

/-- a result's variable, read -/
def resSem (tmps : Array Value) : ResultVar → Sem Value
  | .tmp t => pure (tmps.getD t undef)
  | .cell b t => do loadVar t (← asAddr (tmps.getD b undef))

/-- one result -/
theorem res_ok {x : ResultVar} {y : Od × Option (Option Nat)} {k : Value → Option CRet} {c : CRet} (hH : HR ρ H nx w.heap) (he : EnvR ρ kept n [] T [] a) (hc : compileResult P kept n x = some y) (h : resK T H y k = some c) :
    ∃ v u, k v = some c ∧ VR ρ v u ∧ (resSem a.tmps x).run P w = .ok u w := by
  cases x with
  | tmp t =>
    simp only [compileResult] at hc
    obtain ⟨hc1, hc2⟩ := bif_both hc
    cases hc2
    simp only [Bool.and_eq_true] at hc1
    have h' : bd (getP T (slotPath t)) k = some c := h
    obtain ⟨v, hv, h1⟩ := bd_eq h'
    have := he.kept t hc1.2
    rw [hv] at this
    exact ⟨v, _, h1, this, rfl⟩
  | cell b t =>
    simp only [compileResult] at hc
    obtain ⟨hc1, hc2⟩ := bif_both hc
    simp only [Bool.and_eq_true] at hc1
    obtain ⟨g, hg, rfl⟩ := Option.map_eq_some_iff.1 hc2
    have hk := he.kept b hc1.2
    have h' : (match getP T (slotPath b) with
      | some (.pointer (some ⟨b, o, none⟩)) => match getP H (at_ b) with
        | some (.cells cs) => bd (partOf cs o g) k
        | _ => none
      | _ => none) = some c := h
    split at h'
    · rename_i b' o hb
      rw [hb] at hk
      split at h'
      · rename_i cs hcs
        obtain ⟨v, hv, h1⟩ := bd_eq h'
        have hk' : VR ρ (.pointer (some ⟨b', o, none⟩)) (a.tmps.getD b undef) := hk
        generalize hu : a.tmps.getD b undef = u at hk'
        have hl : (onPtr (Value.pointer (some ⟨b', o, none⟩)) fun b o => cellsK H b fun cs => bd (partOf cs o g) kv0) = kv0 v := by
          show onCells (getP H (at_ b')) (fun cs => bd (partOf cs o g) kv0) = kv0 v
          rw [hcs]
          show bd (partOf cs o g) kv0 = kv0 v
          rw [hv]
          rfl
        obtain ⟨x, y, g1, g2, g3⟩ := lod_sound (P := P) (w := w) hg hH hk' (hl.trans rfl)
        have hx : x = v := by
          have e : kv0 x = kv0 v := g1
          unfold kv0 at e
          simp only [Option.some.injEq, Prod.mk.injEq, St.mk.injEq, Tr.n.injEq, true_and, and_true] at e
          exact e
        rw [hx] at g3
        refine ⟨v, y, h1, g3, ?_⟩
        rw [← g2]
        show (do loadVar t (← asAddr (a.tmps.getD b undef)) : Sem Value).run P w = _
        rw [hu]
        cases hk' with
        | sc h => simp [scalar] at h
        | ptr hr => rfl
      · cases h'
    · cases h'
end Go.Eng
/- The engine: whole functions. -/
namespace Go.Eng
variable {P : Program} {ins : List Nat} {A : AProg} {rn : Run} {kept : List Nat} {n : Nat}

/-- a word on a call that holds -/
def SaysOk (P : Program) (g : FuncId) (vs : List Value) (H : Heap) (nx : Nat) (c : CRet) : Prop := Entered P g ∧ nx ≤ c.count ∧ ∀ ρ us w, VRs ρ vs us → HR ρ H nx w.heap → Calls P g ⟨us⟩ w (RetR ρ H nx w c)

/-- the engine's program is the model's -/
structure AOk (P : Program) (ins : List Nat) (A : AProg) : Prop where
  eq : A.P = P
  insert : InsOk P ins
  mix : P.follows .mixedOrders = true
  hook : ∀ g vs H nx c, A.hook g vs H nx = some c → SaysOk P g vs H nx c
  func : ∀ g af, A.funcs g = some af → ∃ fn kept, P.funcs[g]? = some fn ∧ fn.body.isNone = false ∧ (fn.name == "runtime.NumGoroutine") = false ∧ compileFunc P ins kept fn = some af

def LoopOk (P : Program) (ins : List Nat) (r : Run) : Prop := ∀ kept n x ac, compileCode P ins kept n x = some ac → ∃ m, RoundsOk P kept n (r.code (.loop ac)) m x

/-- a region is compiled as one that recovers, or as it is -/
theorem compileReg_cases {draw : Bool} {ops : List Oper} {ac : ACode} (h : compileReg P ins kept n draw ops = some ac) :
    (∃ p, rcvOf kept n ops = some p ∧ draw = false ∧ ac = .reg false [(⟨some p, none, .rcv⟩, [])]) ∨ (∃ l, compileOps P ins kept n draw ops = some l ∧ ac = .reg draw l ∧ l.any (fun x => isRcv x.1.op) = false) := by
  unfold compileReg at h
  split at h
  · rename_i p hp
    cases h
    exact .inl ⟨p, hp, rfl, rfl⟩
  · split at h
    · rename_i l hl
      cases hb : l.any fun x => isRcv x.1.op with
      | true => rw [hb] at h; cases h
      | false => rw [hb] at h; cases h; exact .inr ⟨l, hl, rfl, hb⟩
    · cases h

theorem codeT_ok (hA : AOk P ins A) (hcall : CallOk P rn) (hup : UpRun rn) (hloop : LoopOk P ins rn) : ∀ (x : Code) (ac : ACode), compileCode P ins kept n x = some ac → CodeOk P ins kept n (codeT ac A rn) x := by
  intro x
  induction x with
  | skip => intro ac h; cases h; exact skip_ok
  | label l =>
    intro ac h
    cases h
    intro T D H nx o h ρ a w hH ha
    have h' : cSkip T D H nx = some o := h
    cases h'
    exact wp_label ⟨ρ, .refl hH, ha, trivial⟩
  | region id ops draw =>
    intro ac h
    rcases compileReg_cases (show compileReg P ins kept n draw ops.toList = some ac from h) with ⟨p, _, rfl, rfl⟩ | ⟨l, hl, rfl, _⟩
    · intro T D H nx o h
      have h' : (none : R0) = some o := h
      cases h'
    · cases draw with
      | false => exact reg_ok hA.eq hcall hA.insert hl
      | true => exact draw_ok hA.eq hcall hA.insert hup hA.mix hl
  | seq a b iha ihb =>
    intro ac h
    simp only [compileCode] at h
    split at h
    · rename_i ca cb ha hb
      cases h
      exact seq_ok (iha ca ha) (ihb cb hb)
    · cases h
  | cond c a b iha ihb =>
    intro ac h
    simp only [compileCode] at h
    split at h
    · rename_i cc ca cb hc ha hb
      cases h
      exact cond_ok hc (iha ca ha) (ihb cb hb)
    · cases h
  | block id a iha =>
    intro ac h
    obtain ⟨ca, ha, rfl⟩ := Option.map_eq_some_iff.1 (show (compileCode P ins kept n a).map (.block id) = some ac from h)
    exact block_ok (iha ca ha)
  | loop a iha =>
    intro ac h
    obtain ⟨ca, ha, rfl⟩ := Option.map_eq_some_iff.1 (show (compileCode P ins kept n a).map .loop = some ac from h)
    obtain ⟨m, hm⟩ := hloop kept n a ca ha
    exact loop_ok (loop_rounds (iha ca ha) hm)
  | exit id => intro ac h; cases h; exact exit_ok
  | ret => intro ac h; cases h; exact ret_ok
  | _ => intro ac h; cases h

/-! ### results -/
theorem results_ok {ρ : Rho} {T : Tr Value} {H : Heap} {nx : Nat} {a : Act} {w : World} (hH : HR ρ H nx w.heap) (he : EnvR ρ kept n [] T [] a) : ∀ {xs : List ResultVar} {ys : List (Od × Option (Option Nat))} {k : List Value → Option CRet} {c : CRet},
    compileResults P kept n xs = some ys → resultsK T H ys k = some c → ∃ vs us, k vs = some c ∧ VRs ρ vs us ∧ xs.length = us.length ∧
      ∀ (i : Nat) (x : ResultVar) (y : Value), xs[i]? = some x → us[i]? = some y → (resSem a.tmps x).run P w = .ok y w := by
  intro xs
  induction xs with
  | nil =>
    intro ys k c hc h
    cases hc
    exact ⟨[], [], h, .nil, rfl, fun i x y hx => by simp at hx⟩
  | cons x xs ih =>
    intro ys k c hc h
    simp only [compileResults] at hc
    split at hc
    · rename_i y ys' hy hys
      cases hc
      have h' : resK T H y (fun v => resultsK T H ys' fun vs => k (v :: vs)) = some c := h
      obtain ⟨v, u, h1, h2, h3⟩ := res_ok hH he hy h'
      obtain ⟨vs, us, g1, g2, g3, g4⟩ := ih hys h1
      refine ⟨v :: vs, u :: us, g1, .cons h2 g2, by simp [g3], fun i x' y' hx hy => ?_⟩
      cases i with
      | zero =>
        simp at hx hy
        subst hx; subst hy
        exact h3
      | succ i => exact g4 i x' y' (by simpa using hx) (by simpa using hy)
    · cases hc

theorem results_run {fn : Func} {tmps : Array Value} {w : World} {us : List Value} (hl : fn.results.toList.length = us.length)
    (h : ∀ (i : Nat) (x : ResultVar) (y : Value), fn.results.toList[i]? = some x → us[i]? = some y → (resSem tmps x).run P w = .ok y w) :
    (results fn tmps).run P w = .ok (oneOf us) w := by
  have e : results fn tmps = (do let vs ← fn.results.mapM (resSem tmps); pure (if h : vs.size = 1 then vs[0] else .tuple vs)) := by
    unfold results
    congr 2
  rw [e]
  have := run_mapMA (P := P) (w := w) (f := resSem tmps) hl h
  simp only [Sem.run_bind]
  refine Eq.trans (congrArg (fun r => Result.andThen r _) this) ?_
  simp only [Result.andThen_ok, Sem.run_pure]
  congr 1
  match us with
  | [] => simp [oneOf]
  | [u] => simp [oneOf]
  | u :: v :: l => simp [oneOf]

theorem VRs.single {ρ : Rho} {vs us : List Value} (h : VRs ρ vs us) : VR ρ (oneOf vs) (oneOf us) := by
  cases h with
  | nil => exact .tuple .nil
  | cons h hs =>
    cases hs with
    | nil => exact h
    | cons h1 h2 => exact .tuple (.cons h (.cons h1 h2))

/-! ### modes -/
inductive ModeR (ρ : Rho) : FrameMode → FrameMode → Prop
  | returning : ModeR ρ .returning .returning
  | panicking {ch ch' : List PanicEntry} (h : ChRs ρ ch ch') : ModeR ρ (.panicking ch) (.panicking ch')

theorem ModeR.mono {ρ ρ' : Rho} (e : Ext ρ ρ') {u u' : FrameMode} (h : ModeR ρ u u') : ModeR ρ' u u' := by
  cases h with
  | returning => exact .returning
  | panicking h => exact .panicking (h.mono e)

theorem ModeR.ne {ρ : Rho} {u u' : FrameMode} (h : ModeR ρ u u') : u' ≠ .run := by
  cases h <;> simp

theorem ChRs.append {ρ : Rho} {a a' b b' : List PanicEntry} (h : ChRs ρ a a') (h' : ChRs ρ b b') : ChRs ρ (a ++ b) (a' ++ b') := by
  induction h with
  | nil => exact h'
  | cons hv hr hg _ ih => exact .cons hv hr hg ih

theorem ChRs.drop {ρ : Rho} {a a' : List PanicEntry} (h : ChRs ρ a a') : ChRs ρ (a.dropWhile (!·.goexit)) (a'.dropWhile (!·.goexit)) := by
  induction h with
  | nil => exact .nil
  | @cons e e' l l' hv hr hg h ih =>
    rw [List.dropWhile_cons, List.dropWhile_cons, hg]
    cases e.goexit with
    | true => exact .cons hv hr hg h
    | false => exact ih

theorem settle_ok {ρ : Rho} {u u' : FrameMode} (h : ModeR ρ u u') : ModeR ρ (settle u) (settle u') := by
  cases h with
  | returning => exact .returning
  | panicking h =>
    cases h with
    | nil => exact .panicking .nil
    | @cons e e' l l' hv hr hg h =>
      obtain ⟨v, rec, ge⟩ := e
      obtain ⟨v', rec', ge'⟩ := e'
      simp only at hr hg
      subst hr; subst hg
      cases rec' with
      | false => exact .panicking (.cons hv rfl rfl h)
      | true =>
        have hd := h.drop
        show ModeR ρ (match l.dropWhile (!·.goexit) with | [] => .returning | rest => .panicking rest) (match l'.dropWhile (!·.goexit) with | [] => .returning | rest => .panicking rest)
        generalize l.dropWhile (!·.goexit) = m at hd
        generalize l'.dropWhile (!·.goexit) = m' at hd
        cases hd with
        | nil => exact .returning
        | cons hv hr hg h => exact .panicking (.cons hv hr hg h)

theorem raised_ok {ρ : Rho} {u u' : FrameMode} {ch ch' : List PanicEntry} (h : ModeR ρ u u') (hc : ChRs ρ ch ch') : ModeR ρ (raised u ch) (raised u' ch') := by
  cases h with
  | returning => exact .panicking hc
  | panicking h => exact .panicking (hc.append h)

theorem recovered_ok {ρ : Rho} {u u' : FrameMode} (h : ModeR ρ u u') : VR ρ (recovered u).1 (recovered u').1 ∧ ModeR ρ (recovered u).2 (recovered u').2 := by
  cases h with
  | returning => exact ⟨.nilI, .returning⟩
  | panicking h =>
    cases h with
    | nil => exact ⟨.nilI, .panicking .nil⟩
    | @cons e e' l l' hv hr hg h =>
      obtain ⟨v, rec, ge⟩ := e
      obtain ⟨v', rec', ge'⟩ := e'
      simp only at hr hg
      subst hr; subst hg
      cases rec' <;> cases ge' <;> first | exact ⟨hv, .panicking (.cons hv rfl rfl h)⟩ | exact ⟨.nilI, .panicking (.cons hv rfl rfl h)⟩

theorem recoverD_eq (c : Frame) (cs : List Frame) : (match recoverD (c :: cs) with | some (v, cs') => (v, cs') | none => (.nilIface, c :: cs)) = ((recovered c.mode).1, { c with mode := (recovered c.mode).2 } :: cs) := by
  have hc : ∀ m, c.mode = m → ({ c with mode := m } : Frame) = c := fun m h => by subst h; rfl
  cases hm : c.mode with
  | run => simp [recoverD, recovered, hm, hc]
  | returning => simp [recoverD, recovered, hm, hc]
  | panicking ch =>
    cases ch with
    | nil => simp [recoverD, recovered, hm, hc]
    | cons e l =>
      obtain ⟨v, rec, ge⟩ := e
      cases rec <;> cases ge <;> simp [recoverD, recovered, hm, hc]
end Go.Eng
/- The engine: calls, deferred calls, recover. -/
namespace Go.Eng
variable {P : Program} {ins : List Nat} {A : AProg} {rn : Run} {kept : List Nat} {n : Nat}

theorem startP_get : ∀ (l : List Value) (i : Nat) (T : Tr Value) (t : Nat), getP (startP l i T) (at_ t) = if i ≤ t ∧ t < i + l.length then l[t - i]? else getP T (at_ t) := by
  intro l
  induction l with
  | nil => intro i T t; rw [if_neg (by simp)]; rfl
  | cons v l ih =>
    intro i T t
    show getP (startP l (i + 1) (insP (at_ i) T (some v))) (at_ t) = _
    rw [ih]
    by_cases h1 : i + 1 ≤ t ∧ t < i + 1 + l.length
    · rw [if_pos h1, if_pos (by simp; omega)]
      have : t - i = (t - (i + 1)) + 1 := by omega
      rw [this, List.getElem?_cons_succ]
    · rw [if_neg h1]
      by_cases h2 : t = i
      · subst h2
        rw [getP_insP, if_pos (by simp)]
        simp
      · rw [getP_insP_ne _ _ _ _ (fun e => h2 (at_inj e)), if_neg (by simp; omega)]

theorem start_ok {ρ : Rho} {vs us : List Value} (h : VRs ρ vs us) : ActR ρ kept n (startP vs 0 .e) [] { tmps := ⟨us⟩ ++ Array.replicate (n - us.length) undef, defers := [] } := by
  refine ⟨⟨by simp; omega, fun t od hf => by simp [find] at hf, fun t _ => ?_⟩, .nil⟩
  rw [slotPath_eq, startP_get]
  have hl := h.length
  have hg : (⟨us⟩ ++ Array.replicate (n - us.length) undef : Array Value).getD t undef = us.getD t undef := by
    rw [Array.getD_eq_getD_getElem?, List.getD_eq_getElem?_getD, Array.getElem?_append]
    by_cases ht : t < us.length
    · rw [if_pos (by simpa using ht)]
      simp
    · rw [if_neg (by simpa using ht), Array.getElem?_replicate, List.getElem?_eq_none (by omega)]
      split <;> rfl
  show VR ρ _ ((⟨us⟩ ++ Array.replicate (n - us.length) undef : Array Value).getD t undef)
  rw [hg, List.getD_eq_getElem?_getD]
  by_cases ht : t < vs.length
  · rw [if_pos (by omega)]
    have hv : vs[t]? = some vs[t] := List.getElem?_eq_getElem ht
    obtain ⟨u, hu, hr⟩ := h.get hv
    rw [Nat.sub_zero, hv, hu]
    exact hr
  · rw [if_neg (by omega), List.getElem?_eq_none (by omega)]
    exact VR.undef

theorem recover_run {o : Oper} {d : Call} {a : Act} {w : World} (ho : o.op = .call d) (hd : d.callee = .builtin .recover) (hargs : d.args.toList = []) : (execOp a.eval o).run P w = .ok .recover w := by
  rw [builtin_op ho hd]
  rfl

theorem rcv_ok (hA : AOk P ins A) (hcall : CallOk P rn) (hup : UpRun rn) (hloop : LoopOk P ins rn) {v vm : Value} {cs cs' : List Frame} (hcs : (match recoverD cs with | some (v, cs') => (v, cs') | none => (.nilIface, cs)) = (vm, cs')) :
    ∀ (x : Code) (ac ac' : ACode) (p : List Bool), compileCode P ins kept n x = some ac → splitRcv ac = some (p, ac') → ∀ T D H nx o, codeT ac' A rn (insP p T (some v)) D H nx = some o → ∀ ρ a w, HR ρ H nx w.heap → ActR ρ kept n T D a → VR ρ v vm →
      ∀ Q : Exit → Act → List Frame → World → Prop, (∀ e a' w', OutR ρ H nx w kept n o e a' w' → Q e a' cs' w') → x.wpS P Q a cs w := by
  intro x
  induction x with
  | seq a b iha ihb =>
    intro ac ac' p hc hs T D H nx o h ρ c w hH ha hv Q hQ
    simp only [compileCode] at hc
    split at hc
    · rename_i ca cb hca hcb
      cases hc
      simp only [splitRcv] at hs
      split at hs
      · rename_i p0 ca' hsp
        cases hs
        obtain ⟨o1, h1, h2⟩ := bd_eq (show bd (codeT ca' A rn (insP p T (some v)) D H nx) (seqK (codeT cb A rn)) = some o from h)
        refine wpS_seq (iha ca ca' p hca hsp T D H nx o1 h1 ρ c w hH ha hv _ fun e a1 w1 hq => ?_)
        have := seq_after (Q := OutR ρ H nx w kept n o) (N := fun a w => b.wpS P Q a cs' w) h2 (fun st hst ρ1 a1 w1 g1 g2 => wpS_of_wp (wp_mono (codeT_ok hA hcall hup hloop b cb hcb _ _ _ _ o hst ρ1 a1 w1 g1.hr g2) fun e a2 w2 hq => hQ e a2 w2 (.trans g1 hq))) hq
        cases e <;> first | exact this | exact hQ _ _ _ this
      · cases hs
    · cases hc
  | region id ops draw =>
    intro ac ac' p hc hs T D H nx o h ρ c w hH ha hv Q hQ
    rcases compileReg_cases (show compileReg P ins kept n draw ops.toList = some ac from hc) with ⟨p0, hp0, rfl, rfl⟩ | ⟨l, _, rfl, hl⟩
    · simp only [splitRcv, Option.some.injEq, Prod.mk.injEq] at hs
      obtain ⟨rfl, rfl⟩ := hs
      have h' : some (Ex.normal, (⟨insP p0 T (some v), D, H, nx⟩ : St)) = some o := h
      cases h'
      unfold rcvOf at hp0
      split at hp0
      · rename_i op hops
        split at hp0
        · rename_i d t ho hg hd
          split at hp0
          · rename_i hcal
            obtain ⟨hb, hp⟩ := bif_both hp0
            cases hp
            simp only [Bool.and_eq_true, List.isEmpty_iff] at hb
            obtain ⟨⟨hargs, hlt⟩, hk⟩ := hb
            have hlt' : t < n := by rwa [Nat.blt_eq] at hlt
            have hops' : ops = #[op] := by apply Array.ext'; rw [hops]
            subst hops'
            refine wpS_region ?_
            show wpOpsS P #[op] Q [0] c cs w
            have hwanted : Region.wanted op (yielded #[op] c.tmps) = true := by unfold Region.wanted; rw [hg]
            have hrun := recover_run (P := P) (a := c) (w := w) ho hcal hargs
            have hput : EnvR ρ kept n [] (insP (slotPath t) T (some v)) [] (c.put (some t) vm) := by
              have := ha.env.put (keep := some (slotPath t)) (T' := insP (slotPath t) T (some v)) hv hlt' (.inr ⟨_, rfl, rfl, rfl, rfl⟩)
              exact ⟨this.size, fun t od hf => by simp [find] at hf, this.kept⟩
            have hfin : Q .normal (c.put (some t) vm) cs' w := hQ _ _ _ ⟨ρ, .refl hH, ⟨hput, ha.dfr⟩, trivial⟩
            simp only [wpOpsS]
            rw [show (#[op] : Array Oper)[0]? = some op from rfl]
            simp only [hwanted, if_true, hrun, hd]
            cases hr : recoverD cs with
            | none =>
              rw [hr] at hcs
              cases hcs
              exact hfin
            | some y =>
              rw [hr] at hcs
              obtain ⟨y1, y2⟩ := y
              cases hcs
              exact hfin
          · cases hp0
        · cases hp0
      · cases hp0
    · exfalso
      unfold splitRcv at hs
      split at hs
      · rename_i he
        cases he
      · rename_i he
        cases he
        simp [isRcv] at hl
      · cases hs
  | skip => intro ac ac' p hc hs; cases hc; cases hs
  | label l => intro ac ac' p hc hs; cases hc; cases hs
  | exit id => intro ac ac' p hc hs; cases hc; cases hs
  | ret => intro ac ac' p hc hs; cases hc; cases hs
  | block id a _ =>
    intro ac ac' p hc hs
    obtain ⟨ca, _, rfl⟩ := Option.map_eq_some_iff.1 (show (compileCode P ins kept n a).map (.block id) = some ac from hc)
    cases hs
  | loop a _ =>
    intro ac ac' p hc hs
    obtain ⟨ca, _, rfl⟩ := Option.map_eq_some_iff.1 (show (compileCode P ins kept n a).map .loop = some ac from hc)
    cases hs
  | cond c a b _ _ =>
    intro ac ac' p hc hs
    simp only [compileCode] at hc
    split at hc
    · cases hc; cases hs
    · cases hc
  | _ => intro ac ac' p hc hs; cases hc

/-- the code and the results of a compiled function -/
theorem compileFunc_some {fn : Func} {af : AFunc} (h : compileFunc P ins kept fn = some af) : ∃ x, fn.body = some x ∧ compileCode P ins kept fn.ntmps x = some af.body ∧ compileResults P kept fn.ntmps fn.results.toList = some af.results := by
  unfold compileFunc at h
  split at h
  · rename_i x hx
    split at h
    · rename_i b r hb hr
      cases h
      exact ⟨x, hx, hb, hr⟩
    · cases h
  · cases h

theorem results_nil {fn : Func} {tmps : Array Value} {w : World} (h : compileResults P kept n fn.results.toList = some []) : (results fn tmps).run P w = .ok (.tuple #[]) w := by
  have : fn.results.toList = [] := by
    cases hl : fn.results.toList with
    | nil => rfl
    | cons x l =>
      rw [hl] at h
      simp only [compileResults] at h
      split at h
      · cases h
      · cases h
  exact results_none (by apply Array.ext'; rw [this]) tmps P w

/-- how a deferred call ends -/
def EndsD (ρ : Rho) (H : Heap) (nx : Nat) (w : World) (u1 : FrameMode) (H1 : Heap) (nx1 : Nat) (e : Ending) (u2 : FrameMode) (w' : World) : Prop :=
  ∃ ρ', Went ρ H nx w ρ' H1 nx1 w' ∧ match e with
    | .returned _ => ModeR ρ' u1 (settle u2)
    | .panicked ch => ModeR ρ' u1 (raised u2 ch)
    | .outgrown => False

theorem endD_ok {ρ : Rho} {H : Heap} {nx : Nat} {w w' : World} {o : Ex × St} {u u2 u1 : FrameMode} {H1 : Heap} {nx1 : Nat} {fn : Func} {c₀ : Frame} {cs : List Frame} {e : Exit} {a' : Act} (h : endD o u = some (u1, H1, nx1)) (ho : OutR ρ H nx w kept n o e a' w')
    (hm : ∀ ρ', Ext ρ ρ' → ModeR ρ' u u2) (hres : ∀ tmps, (results fn tmps).run P w' = .ok (.tuple #[]) w') : bodyPostS P fn c₀ cs (EndsD ρ H nx w u1 H1 nx1) e a' ({ c₀ with mode := u2 } :: cs) w' := by
  obtain ⟨ρ', g1, g2, g3⟩ := ho
  have hm' := hm ρ' g1.stp.ext
  have hdf := g2.dfr
  unfold endD at h
  split at h
  · cases h
    cases e with
    | normal =>
      generalize hd : a'.defers = ds at hdf
      cases hdf
      exact ⟨hd, u2, rfl, _, hres _, ρ', g1, settle_ok hm'⟩
    | _ => exact g3.elim
  · cases h
    cases e with
    | ret =>
      generalize hd : a'.defers = ds at hdf
      cases hdf
      exact ⟨hd, u2, rfl, _, hres _, ρ', g1, settle_ok hm'⟩
    | _ => exact g3.elim
  · cases h
    cases e with
    | panic ch' =>
      generalize hd : a'.defers = ds at hdf
      cases hdf
      exact ⟨hd, u2, rfl, ρ', g1, raised_ok hm' g3⟩
    | _ => exact g3.elim
  · cases h

theorem deferred_ok (hA : AOk P ins A) (hcall : CallOk P rn) (hup : UpRun rn) (hloop : LoopOk P ins rn) {ρ : Rho} {f : Value} {args : List Value} {d : Deferred} {u u' u1 : FrameMode} {H H1 : Heap} {nx nx1 : Nat} {w : World}
    (h : deferredK A rn f args u H nx = some (u1, H1, nx1)) (hd : DfR ρ (f, args) d) (hm : ModeR ρ u u') (hH : HR ρ H nx w.heap) :
    ∃ fv cap g as, d.target = .fn fv cap ∧ (invoke d.target d.args).run P w = .ok (.enter g as) w ∧ CallsD P g as u' w (EndsD ρ H nx w u1 H1 nx1) := by
  obtain ⟨g0, x1, x1', q, q', vs, e1, rfl, e3, e4, e5⟩ := hd
  simp only at e1 e5
  subst e1
  unfold deferredK at h
  split at h
  · rename_i g first captured hg
    simp only [Value.func.injEq, Fn.func.injEq] at hg
    obtain ⟨rfl, rfl, rfl⟩ := hg
    split at h
    · rename_i c hfn
      obtain ⟨fn, kept, p1, p2, p3, p4⟩ := hA.func _ _ hfn
      obtain ⟨x, b1, b2, b3⟩ := compileFunc_some p4
      have hent : Entered P g0 := ⟨fn, p1, p2, p3⟩
      have hvs : VRs ρ (x1 ++ args ++ q) (x1' ++ vs ++ q') := (e3.append e5).append e4
      have hst := start_ok (kept := kept) (n := fn.ntmps) hvs
      have hlen : (⟨x1' ++ vs ++ q'⟩ : Array Value).size = (x1' ++ vs ++ q').length := rfl
      refine ⟨_, _, g0, ⟨x1' ++ vs ++ q'⟩, rfl, ?_, ?_⟩
      · have : invoke (.fn (.func g0) ⟨q'⟩) ⟨x1' ++ vs⟩ = callFunc g0 ⟨x1' ++ vs ++ q'⟩ := by
          simp only [invoke]
          congr 1
          apply Array.ext'
          simp
        rw [this]
        exact hent.run
      · split at h
        · rename_i p c' hsp
          obtain ⟨o, h1, h2⟩ := bd_eq h
          rw [startT_eq, setP_eq] at h1
          obtain ⟨hrv, hrm⟩ := recovered_ok hm
          refine callsD_of_wpS p1 b1 fun c₀ cs hc₀ => ?_
          have hcs := recoverD_eq c₀ cs
          rw [hc₀] at hcs
          rw [hlen]
          refine rcv_ok hA hcall hup hloop hcs x c c' p b2 hsp _ [] H nx o h1 ρ _ w hH hst hrv _ fun e a' w' ho => ?_
          exact endD_ok h2 ho (fun ρ' he => hrm.mono he) fun tmps => results_nil b3
        · obtain ⟨o, h1, h2⟩ := bd_eq h
          rw [startT_eq] at h1
          refine callsD_of_wpS p1 b1 fun c₀ cs hc₀ => ?_
          rw [hlen]
          have hc₀' : ({ c₀ with mode := u' } : Frame) = c₀ := by subst hc₀; rfl
          refine wpS_of_wp (wp_mono (codeT_ok hA hcall hup hloop x c b2 _ [] H nx o h1 ρ _ w hH hst) fun e a' w' ho => ?_)
          have := endD_ok (P := P) (fn := fn) (c₀ := c₀) (cs := cs) h2 ho (fun ρ' he => hm.mono he) fun tmps => results_nil b3
          rwa [hc₀'] at this
    · cases h
  · rename_i hno
    exact absurd rfl (hno _ _ _)
end Go.Eng
/- The engine: whatever it says of a call, holds. -/
namespace Go.Eng
variable {P : Program} {ins : List Nat} {A : AProg} {rn : Run} {kept : List Nat} {n : Nat}

theorem RetR.trans {ρ ρ1 : Rho} {H H1 : Heap} {nx nx1 : Nat} {w w1 : World} {c : CRet} {e : Ending} {w' : World} (h : Went ρ H nx w ρ1 H1 nx1 w1) (h' : RetR ρ1 H1 nx1 w1 c e w') : RetR ρ H nx w c e w' := by
  cases c with
  | ok v H' nx' =>
    obtain ⟨u, ρ', g1, g2, g3⟩ := h'
    exact ⟨u, ρ', g1, g2, h.trans g3⟩
  | pan ch H' nx' =>
    obtain ⟨u, ρ', g1, g2, g3⟩ := h'
    exact ⟨u, ρ', g1, g2, h.trans g3⟩

theorem leaves_ok (hA : AOk P ins A) (hcall : CallOk P rn) (hup : UpRun rn) (hloop : LoopOk P ins rn) {fn : Func} {af : AFunc} {T : Tr Value} {tmps : Array Value} {c : CRet} (hres : compileResults P kept n fn.results.toList = some af.results) :
    ∀ (D : List Dfd) (u : FrameMode) (H : Heap) (nx : Nat) (y : FrameMode × Heap × Nat), unwindD A rn D u H nx = some y → leaveM af T y = some c → ∀ ρ ds u' w, DfRs ρ D ds → ModeR ρ u u' → HR ρ H nx w.heap → EnvR ρ kept n [] T [] ⟨tmps, []⟩ →
      ∀ R : Ending → World → Prop, (∀ e w', RetR ρ H nx w c e w' → R e w') → Leaves P fn tmps R ds u' w := by
  intro D
  induction D with
  | nil =>
    intro u H nx y hy hl ρ ds u' w hd hm hH he R hR
    cases hy
    cases hd
    unfold leaveM at hl
    cases hm with
    | returning =>
      obtain ⟨vs, us, g1, g2, g3, g4⟩ := results_ok hH he hres (show resultsK T H af.results (fun vs => some (.ok (oneOf vs) H nx)) = some c from hl)
      cases g1
      exact ⟨oneOf us, results_run g3 g4, hR _ _ ⟨_, ρ, rfl, g2.single, .refl hH⟩⟩
    | panicking h =>
      have hl' : some (CRet.pan _ H nx) = some c := hl
      cases hl'
      exact hR _ _ ⟨_, ρ, rfl, h, .refl hH⟩
  | cons d D ih =>
    obtain ⟨f, args⟩ := d
    intro u H nx y hy hl ρ ds u' w hd hm hH he R hR
    unfold unwindD at hy
    split at hy
    · rename_i u1 H1 nx1 h1
      generalize hdd : (f, args) :: D = DD at hd
      cases hd with
      | nil => cases hdd
      | cons hx hrest =>
        cases hdd
        obtain ⟨fv, cap, g, as, k1, k2, k3⟩ := deferred_ok hA hcall hup hloop h1 hx hm hH
        refine ⟨hm.ne, fv, cap, g, as, k1, k2, k3.mono fun e u2 w' hE => ?_⟩
        obtain ⟨ρ', q1, q2⟩ := hE
        cases e with
        | returned v => exact ih _ _ _ _ hy hl ρ' _ _ _ (hrest.mono q1.stp.ext) q2 q1.hr (he.mono q1.stp.ext) R fun e w'' hr => hR e w'' (.trans q1 hr)
        | panicked ch => exact ih _ _ _ _ hy hl ρ' _ _ _ (hrest.mono q1.stp.ext) q2 q1.hr (he.mono q1.stp.ext) R fun e w'' hr => hR e w'' (.trans q1 hr)
        | outgrown => exact q2.elim
    · cases hy

theorem callF_ok (hA : AOk P ins A) (hcall : CallOk P rn) (hup : UpRun rn) (hloop : LoopOk P ins rn) {g : FuncId} {vs : List Value} {H : Heap} {nx : Nat} {c : CRet} (h : callF A rn g vs H nx = some c) :
    Entered P g ∧ ∀ ρ us w, VRs ρ vs us → HR ρ H nx w.heap → Calls P g ⟨us⟩ w (RetR ρ H nx w c) := by
  have h' : (Option.rec (bd (A.funcs g) (callF1 A rn vs H nx)) some (A.hook g vs H nx) : Option CRet) = some c := h
  cases hh : A.hook g vs H nx with
  | some c' =>
    rw [hh] at h'
    cases h'
    obtain ⟨q1, _, q2⟩ := hA.hook _ _ _ _ _ hh
    exact ⟨q1, q2⟩
  | none =>
  rw [hh] at h'
  obtain ⟨af, h1, h2⟩ := bd_eq (show bd (A.funcs g) (callF1 A rn vs H nx) = some c from h')
  obtain ⟨fn, kept, p1, p2, p3, p4⟩ := hA.func _ _ h1
  obtain ⟨x, b1, b2, b3⟩ := compileFunc_some p4
  refine ⟨⟨fn, p1, p2, p3⟩, fun ρ us w hvs hH => ?_⟩
  obtain ⟨o, h3, h4⟩ := bd_eq (show bd (startT vs .e fun T => codeT af.body A rn T [] H nx) (endF A rn af) = some c from h2)
  rw [startT_eq] at h3
  refine calls_of_wp_defers p1 b1 ?_
  have hst := start_ok (kept := kept) (n := fn.ntmps) hvs
  have hlen : (⟨us⟩ : Array Value).size = us.length := rfl
  rw [hlen]
  refine wp_mono (codeT_ok hA hcall hup hloop x af.body b2 _ [] H nx o h3 ρ _ w hH hst) fun e a' w' ho => ?_
  obtain ⟨ex, T, D, H', nx'⟩ := o
  obtain ⟨ρ', g1, g2, g3⟩ := ho
  have fin : ∀ u u', leaveF A rn af u ⟨T, D, H', nx'⟩ = some c → ModeR ρ' u u' → Leaves P fn a'.tmps (RetR ρ H nx w c) a'.defers u' w' := by
    intro u u' hl hm
    obtain ⟨y, k1, k2⟩ := bd_eq (show bd (unwindD A rn D u H' nx') (leaveM af T) = some c from hl)
    exact leaves_ok hA hcall hup hloop b3 D u H' nx' y k1 k2 ρ' _ u' w' g2.dfr hm g1.hr ⟨g2.env.size, g2.env.env, g2.env.kept⟩ _ fun e w'' hr => .trans g1 hr
  cases ex with
  | normal =>
    cases e with
    | normal => exact fin _ _ h4 .returning
    | _ => exact g3.elim
  | exit i => cases h4
  | ret =>
    cases e with
    | ret => exact fin _ _ h4 .returning
    | _ => exact g3.elim
  | panic ch =>
    cases e with
    | panic ch' => exact fin _ _ h4 (.panicking g3)
    | _ => exact g3.elim

theorem AOk.up (hA : AOk P ins A) (m : Nat) : UpRun (run A m) := run_up (fun g vs H nx c h => (hA.hook g vs H nx c h).2.1) m

theorem run_ok (hA : AOk P ins A) : ∀ m, CallOk P (run A m) ∧ LoopOk P ins (run A m) := by
  intro m
  induction m with
  | zero => exact ⟨(fun g vs H nx c h => by cases h), (fun kept n x ac _ => ⟨0, (fun T D H nx o h => by cases h)⟩)⟩
  | succ m ih =>
    refine ⟨fun g vs H nx c h => callF_ok hA ih.1 (hA.up m) ih.2 h, fun kept n x ac hc => ?_⟩
    obtain ⟨k, hk⟩ := ih.2 kept n x ac hc
    exact ⟨k + 1, loop_rounds (codeT_ok hA ih.1 (hA.up m) ih.2 x ac hc) hk⟩

/-- the engine's word on a closed call, from an empty heap: in every world -/
theorem closed_call (hA : AOk P ins A) {m : Nat} {g : FuncId} {vs us : List Value} {v : Value} {H : Heap} {nx : Nat} (h : (run A m).call g vs .e 0 = some (.ok v H nx)) (hv : VRs (fun _ => none) vs us) (w : World) :
    Calls P g ⟨us⟩ w fun e w' => ∃ ρ u, e = .returned u ∧ VR ρ v u ∧ Stp (fun _ => none) .e w ρ H w' := by
  have h0 : HR (fun _ => none) .e 0 w.heap := ⟨(fun b k hb => by cases hb), (fun b b' k k' s s' hb => by cases hb), fun _ _ => rfl⟩
  refine (((run_ok hA m).1 g vs .e 0 _ h).2 _ us w hv h0).mono fun e w' hr => ?_
  obtain ⟨u, ρ', g1, g2, g3⟩ := hr
  exact ⟨ρ', u, g1, g2, g3.stp⟩
end Go.Eng
/- The engine: words on calls that are kept for later. -/
namespace Go.Eng
noncomputable section
variable {P : Program} {ins : List Nat} {A : AProg}

/-- what is said of a call in a small heap holds in a greater one -/
theorem SaysOk.frame {g : FuncId} {vs : List Value} {Hs H2 H G : Heap} {nx nx2 : Nat} {v : Value} (h : SaysOk P g vs Hs nx (.ok v H2 nx2)) (h1 : ∀ b k, getP Hs (at_ b) = some k → getP H (at_ b) = some k)
    (h2 : ∀ b k, getP G (at_ b) = some k → getP H2 (at_ b) = some k ∨ (getP Hs (at_ b) = none ∧ getP H (at_ b) = some k)) : SaysOk P g vs H nx (.ok v G nx2) := by
  obtain ⟨e1, e2, e3⟩ := h
  refine ⟨e1, e2, fun ρ us w hv hH => ?_⟩
  have hHs : HR ρ Hs nx w.heap := ⟨fun b k hb => hH.blk b k (h1 b k hb), fun b c k l r s hb hc => hH.inj b c k l r s (h1 _ _ hb) (h1 _ _ hc), hH.new⟩
  have hown : ∀ k, Own ρ Hs k → Own ρ H k := fun k ⟨b, x, r, g1, g2, g3⟩ => ⟨b, x, r, h1 b x g1, g2, g3⟩
  refine (e3 ρ us w hv hHs).mono fun e w' hr => ?_
  obtain ⟨u, ρ', g1, g2, g3⟩ := hr
  -- a block of the greater heap
  have hside : ∀ b k, getP Hs (at_ b) = none → getP H (at_ b) = some k → ∃ r, ρ b = some r ∧ ρ' b = some r ∧ BR ρ w.heap r k ∧ ¬ Own ρ Hs r.blk := by
    intro b k hn hb
    obtain ⟨r, q1, q2⟩ := hH.blk b k hb
    refine ⟨r, q1, g3.stp.ext _ _ q1, q2, ?_⟩
    rintro ⟨b2, x, r2, p1, p2, p3⟩
    have := hH.inj b2 b x k r2 r (h1 _ _ p1) hb p2 q1 p3
    subst this
    rw [hn] at p1
    cases p1
  have hmix : ∀ b b' k k' r r', getP H2 (at_ b) = some k → getP Hs (at_ b') = none → getP H (at_ b') = some k' → ρ' b = some r → ρ' b' = some r' → r.blk = r'.blk → False := by
    intro b b' k k' r r' hb hn hb' hr hr' e
    obtain ⟨r2, q1, q2, q3, q4⟩ := hside b' k' hn hb'
    rw [hr'] at q2
    cases q2
    rcases g3.stp.own r.blk ⟨b, k, r, hb, hr, rfl⟩ with ho | ho
    · exact q4 (e ▸ ho)
    · have := q3.lt
      omega
  refine ⟨u, ρ', g1, g2, ⟨⟨fun b k hb => ?_, fun b c k l r s hb hc hr hs e => ?_, g3.hr.new⟩, ⟨g3.stp.ext, fun k hk => ?_, fun k hk hn => g3.stp.frame k hk fun ho => hn (hown k ho), g3.stp.size, g3.stp.os, g3.stp.tape, g3.stp.output⟩, g3.le, g3.low⟩⟩
  · rcases h2 b k hb with hb | ⟨hn, hb⟩
    · exact g3.hr.blk b k hb
    · obtain ⟨r, q1, q2, q3, q4⟩ := hside b k hn hb
      exact ⟨r, q2, (q3.mono g3.stp.ext).of_same (g3.stp.frame _ q3.lt q4)⟩
  · rcases h2 b k hb with hb | ⟨hnb, hb⟩
    · rcases h2 c l hc with hc | ⟨hnc, hc⟩
      · exact g3.hr.inj b c k l r s hb hc hr hs e
      · exact (hmix b c k l r s hb hnc hc hr hs e).elim
    · rcases h2 c l hc with hc | ⟨hnc, hc⟩
      · exact (hmix c b l k s r hc hnb hb hs hr e.symm).elim
      · obtain ⟨r1, q1, q2, _⟩ := hside b k hnb hb
        obtain ⟨s1, p1, p2, _⟩ := hside c l hnc hc
        rw [hr] at q2
        rw [hs] at p2
        cases q2; cases p2
        exact hH.inj b c k l r s hb hc q1 p1 e
  · obtain ⟨b, x, r, q1, q2, q3⟩ := hk
    rcases h2 b x q1 with hb | ⟨hn, hb⟩
    · rcases g3.stp.own k ⟨b, x, r, hb, q2, q3⟩ with ho | ho
      · exact .inl (hown k ho)
      · exact .inr ho
    · obtain ⟨r1, p1, p2, _⟩ := hside b x hn hb
      rw [q2] at p2
      cases p2
      exact .inl ⟨b, x, r, hb, p1, q3⟩

/-- the counter may be set higher -/
theorem SaysOk.high {g : FuncId} {vs : List Value} {H H2 : Heap} {nx nx2 nx3 : Nat} {v : Value} (h : SaysOk P g vs H nx (.ok v H2 nx2)) (hle : nx2 ≤ nx3) : SaysOk P g vs H nx (.ok v H2 nx3) := by
  obtain ⟨e1, e2, e3⟩ := h
  refine ⟨e1, Nat.le_trans e2 hle, fun ρ us w hv hH => (e3 ρ us w hv hH).mono fun e w' hr => ?_⟩
  obtain ⟨u, ρ', g1, g2, g3⟩ := hr
  exact ⟨u, ρ', g1, g2, ⟨g3.hr.blk, g3.hr.inj, fun b hb => g3.hr.new b (Nat.le_trans hle hb)⟩, g3.stp, Nat.le_trans g3.le hle, g3.low⟩

theorem run_says (hA : AOk P ins A) {m : Nat} {g : FuncId} {vs : List Value} {H : Heap} {nx : Nat} {c : CRet} (h : (run A m).call g vs H nx = some c) : SaysOk P g vs H nx c :=
  let ⟨h1, h2⟩ := (run_ok hA m).1 g vs H nx c h
  ⟨h1, (hA.up m).call g vs H nx c h, h2⟩

/-- a closed call that gives a number, and has no arguments: at any place -/
theorem SaysOk.anywhere {g : FuncId} {v : Value} {H2 : Heap} {nx2 : Nat} (h : SaysOk P g [] .e 0 (.ok v H2 nx2)) (hv : scalar v = true) (H : Heap) (nx : Nat) : SaysOk P g [] H nx (.ok v H nx) := by
  obtain ⟨e1, _, e3⟩ := h
  refine ⟨e1, Nat.le_refl _, fun ρ us w hvs hH => ?_⟩
  cases hvs
  have h0 : HR (fun _ => none) .e 0 w.heap := ⟨(fun b k hb => by cases hb), (fun b b' k k' s s' hb => by cases hb), fun _ _ => rfl⟩
  refine (e3 _ [] w .nil h0).mono fun e w' hr => ?_
  obtain ⟨u, ρ', g1, g2, g3⟩ := hr
  have hst : ∀ k, k < w.heap.size → w'.heap[k]? = w.heap[k]? := fun k hk => g3.stp.frame k hk (fun ⟨b, x, s, hb, _⟩ => by cases hb)
  refine ⟨u, ρ, g1, ?_, ⟨⟨fun b k hb => ?_, hH.inj, hH.new⟩, ⟨.refl ρ, fun _ hk => .inl hk, fun k hk _ => hst k hk, g3.stp.size, g3.stp.os, g3.stp.tape, g3.stp.output⟩, Nat.le_refl _, fun _ _ => rfl⟩⟩
  · rw [g2.scalar_eq hv]; exact .sc hv
  · obtain ⟨r, q1, q2⟩ := hH.blk b k hb
    exact ⟨r, q1, q2.of_same (hst _ q2.lt)⟩

/-! ### small heaps, as lists -/
abbrev Cells := List (Nat × Blk)
def look : Cells → Nat → Option Blk
  | [], _ => none
  | (b, k) :: l, c => bif Nat.beq b c then some k else look l c
def heapOf : Cells → Heap
  | [] => .e
  | (b, k) :: l => insP (at_ b) (heapOf l) (some k)
def dropAll : Cells → Heap → Heap
  | [], H => H
  | (b, _) :: l, H => insP (at_ b) (dropAll l H) none
def addAll : Cells → Heap → Heap
  | [], H => H
  | (b, k) :: l, H => insP (at_ b) (addAll l H) (some k)

theorem get_heapOf : ∀ (l : Cells) (c : Nat), getP (heapOf l) (at_ c) = look l c := by
  intro l
  induction l with
  | nil => intro c; rfl
  | cons x l ih =>
    obtain ⟨b, k⟩ := x
    intro c
    show getP (insP (at_ b) (heapOf l) (some k)) (at_ c) = bif Nat.beq b c then some k else look l c
    cases hb : Nat.beq b c with
    | true =>
      have := Nat.eq_of_beq_eq_true hb
      subst this
      rw [getP_insP]; rfl
    | false => rw [getP_insP_ne _ _ _ _ (fun e => Nat.ne_of_beq_eq_false hb (at_inj e).symm), ih]; rfl

theorem get_addAll : ∀ (l : Cells) (H : Heap) (c : Nat), getP (addAll l H) (at_ c) = (match look l c with | some k => some k | none => getP H (at_ c)) := by
  intro l
  induction l with
  | nil => intro H c; rfl
  | cons x l ih =>
    obtain ⟨b, k⟩ := x
    intro H c
    show getP (insP (at_ b) (addAll l H) (some k)) (at_ c) = (match (bif Nat.beq b c then some k else look l c) with | some k => some k | none => getP H (at_ c))
    cases hb : Nat.beq b c with
    | true =>
      have := Nat.eq_of_beq_eq_true hb
      subst this
      rw [getP_insP]; rfl
    | false => rw [getP_insP_ne _ _ _ _ (fun e => Nat.ne_of_beq_eq_false hb (at_inj e).symm), ih]; rfl

theorem get_dropAll : ∀ (l : Cells) (H : Heap) (c : Nat), getP (dropAll l H) (at_ c) = (match look l c with | some _ => none | none => getP H (at_ c)) := by
  intro l
  induction l with
  | nil => intro H c; rfl
  | cons x l ih =>
    obtain ⟨b, k⟩ := x
    intro H c
    show getP (insP (at_ b) (dropAll l H) none) (at_ c) = (match (bif Nat.beq b c then some k else look l c) with | some _ => none | none => getP H (at_ c))
    cases hb : Nat.beq b c with
    | true =>
      have := Nat.eq_of_beq_eq_true hb
      subst this
      rw [getP_insP]; rfl
    | false => rw [getP_insP_ne _ _ _ _ (fun e => Nat.ne_of_beq_eq_false hb (at_inj e).symm), ih]; rfl

/-! ### the same value -/
def vEqs (f : Value → Value → Bool) : List Value → List Value → Bool
  | [], [] => true
  | a :: as, b :: bs => f a b && vEqs f as bs
  | _, _ => false
def vEq : Nat → Value → Value → Bool
  | 0, _, _ => false
  | n + 1, .agg a, .agg b => vEqs (vEq n) a.toList b.toList
  | n + 1, .tuple a, .tuple b => vEqs (vEq n) a.toList b.toList
  | _ + 1, .string a, .string b => decide (a = b)
  | _ + 1, .nilIface, .nilIface => true
  | _ + 1, .nilFunc, .nilFunc => true
  | _ + 1, a, b => veq1 a b

theorem vEq_sound : ∀ (n : Nat) {a b : Value}, vEq n a b = true → a = b := by
  intro n
  induction n with
  | zero => intro a b h; simp [vEq] at h
  | succ n ih =>
    have hs : ∀ {as bs : List Value}, vEqs (vEq n) as bs = true → as = bs := by
      intro as
      induction as with
      | nil => intro bs h; cases bs <;> first | rfl | simp [vEqs] at h
      | cons a as iha =>
        intro bs h
        cases bs with
        | nil => simp [vEqs] at h
        | cons b bs =>
          simp only [vEqs, Bool.and_eq_true] at h
          rw [ih h.1, iha h.2]
    intro a b h
    have key : ∀ x y : Array Value, vEqs (vEq n) x.toList y.toList = true → x = y := fun x y h => Array.ext' (hs h)
    unfold vEq at h
    split at h
    · cases h
    · rename_i m x y he
      cases he
      rw [key _ _ h]
    · rename_i m x y he
      cases he
      rw [key _ _ h]
    · simp at h; rw [h]
    · rfl
    · rfl
    · exact veq1_sound h

def vEqL : List Value → List Value → Bool
  | [], [] => true
  | a :: as, b :: bs => vEq 100 a b && vEqL as bs
  | _, _ => false
theorem vEqL_sound : ∀ {a b : List Value}, vEqL a b = true → a = b := by
  intro a
  induction a with
  | nil => intro b h; cases b <;> first | rfl | simp [vEqL] at h
  | cons x a ih =>
    intro b h
    cases b with
    | nil => simp [vEqL] at h
    | cons y b =>
      simp only [vEqL, Bool.and_eq_true] at h
      rw [vEq_sound _ h.1, ih h.2]

def kEq : Option Blk → Blk → Bool
  | some (.cells a), .cells b => vEqL a b
  | some (.map [] c), .map [] d => Nat.beq c d
  | _, _ => false
theorem kEq_sound {a : Option Blk} {b : Blk} (h : kEq a b = true) : a = some b := by
  unfold kEq at h
  split at h
  · rw [vEqL_sound h]
  · rw [Nat.eq_of_beq_eq_true h]
  · cases h

def allIn (H : Heap) : Cells → Bool
  | [] => true
  | (b, k) :: l => kEq (getP H (at_ b)) k && allIn H l
theorem allIn_sound {H : Heap} : ∀ {l : Cells}, allIn H l = true → ∀ c k, look l c = some k → getP H (at_ c) = some k := by
  intro l
  induction l with
  | nil => intro _ c k h; cases h
  | cons x l ih =>
    obtain ⟨b, k0⟩ := x
    intro h c k hl
    simp only [allIn, Bool.and_eq_true] at h
    have hl' : (bif Nat.beq b c then some k0 else look l c) = some k := hl
    cases hb : Nat.beq b c with
    | true =>
      rw [hb] at hl'
      have := Nat.eq_of_beq_eq_true hb
      subst this
      cases hl'
      exact kEq_sound h.1
    | false => rw [hb] at hl'; exact ih h.2 c k hl'

/-- a call's outcome, kept -/
structure Fact where
  g : FuncId
  vs : List Value
  pre : Cells
  nx : Nat
  v : Value
  post : Cells
  nx' : Nat

/-- does the engine come to it? -/
def holdsFor (f : Fact) : Option CRet → Bool
  | some (.ok v H nx) => vEq 100 v f.v && (allIn H f.post && Nat.ble nx f.nx')
  | _ => false

def FactOk (P : Program) (f : Fact) : Prop := SaysOk P f.g f.vs (heapOf f.pre) f.nx (.ok f.v (heapOf f.post) f.nx')

theorem fact_of_run (hA : AOk P ins A) {m : Nat} (f : Fact) (h : holdsFor f ((run A m).call f.g f.vs (heapOf f.pre) f.nx) = true) : FactOk P f := by
  unfold holdsFor at h
  split at h
  · rename_i v H nx hc
    simp only [Bool.and_eq_true] at h
    obtain ⟨h1, h2, h3⟩ := h
    have hr := run_says hA hc
    rw [vEq_sound _ h1] at hr
    refine SaysOk.frame (hr.high (Nat.le_of_ble_eq_true h3)) (fun b k hb => hb) fun b k hb => .inl ?_
    rw [get_heapOf] at hb
    exact allIn_sound h2 b k hb
  · cases h

/-- a kept outcome, used -/
def useFact (f : Fact) (g : FuncId) (vs : List Value) (H : Heap) (nx : Nat) : Option CRet :=
  cond (Nat.beq g f.g) (cond (Nat.beq nx f.nx) (cond (vEqL vs f.vs) (cond (allIn H f.pre) (some (.ok f.v (addAll f.post (dropAll f.pre H)) f.nx')) none) none) none) none

theorem useFact_ok {f : Fact} (hf : FactOk P f) {g : FuncId} {vs : List Value} {H : Heap} {nx : Nat} {c : CRet} (h : useFact f g vs H nx = some c) : SaysOk P g vs H nx c := by
  unfold useFact at h
  cases h1 : Nat.beq g f.g with
  | false => rw [h1] at h; cases h
  | true =>
    cases h2 : Nat.beq nx f.nx with
    | false => rw [h1, h2] at h; cases h
    | true =>
      cases h3 : vEqL vs f.vs with
      | false => rw [h1, h2, h3] at h; cases h
      | true =>
        cases h4 : allIn H f.pre with
        | false => rw [h1, h2, h3, h4] at h; cases h
        | true =>
          rw [h1, h2, h3, h4] at h
          have hc : some (CRet.ok f.v (addAll f.post (dropAll f.pre H)) f.nx') = some c := h
          cases hc
          rw [Nat.eq_of_beq_eq_true h1, Nat.eq_of_beq_eq_true h2, vEqL_sound h3]
          refine SaysOk.frame hf (fun b k hb => ?_) fun b k hb => ?_
          · rw [get_heapOf] at hb
            exact allIn_sound h4 b k hb
          · rw [get_addAll] at hb
            rw [get_heapOf, get_heapOf]
            cases hp : look f.post b with
            | some k' =>
              rw [hp] at hb
              exact .inl hb
            | none =>
              rw [hp] at hb
              have hb' : getP (dropAll f.pre H) (at_ b) = some k := hb
              rw [get_dropAll] at hb'
              cases hq : look f.pre b with
              | some k' => rw [hq] at hb'; cases hb'
              | none => rw [hq] at hb'; exact .inr ⟨rfl, hb'⟩

def useFacts (l : List Fact) (g : FuncId) (vs : List Value) (H : Heap) (nx : Nat) : Option CRet :=
  List.rec none (fun f _ ih => Option.rec ih some (useFact f g vs H nx)) l

theorem useFacts_ok {l : List Fact} (hl : ∀ f ∈ l, FactOk P f) {g : FuncId} {vs : List Value} {H : Heap} {nx : Nat} {c : CRet} (h : useFacts l g vs H nx = some c) : SaysOk P g vs H nx c := by
  induction l with
  | nil => cases h
  | cons f l ih =>
    have h' : (Option.rec (useFacts l g vs H nx) some (useFact f g vs H nx) : Option CRet) = some c := h
    cases hf : useFact f g vs H nx with
    | some c' =>
      rw [hf] at h'
      cases h'
      exact useFact_ok (hl f List.mem_cons_self) hf
    | none =>
      rw [hf] at h'
      exact ih (fun f hf => hl f (List.mem_cons_of_mem _ hf)) h'
end
end Go.Eng
/- The engine: a program's functions, in a trie. -/
namespace Go.Eng

/-- this is what the function is compiled to -/
def FnOk (P : Program) (ins : List Nat) (g : Nat) (af : AFunc) : Prop :=
  ∃ fn kept, P.funcs[g]? = some fn ∧ fn.body.isNone = false ∧ (fn.name == "runtime.NumGoroutine") = false ∧ compileFunc P ins kept fn = some af

def AllT (Q : List Bool → AFunc → Prop) : Tr AFunc → Prop
  | .e => True
  | .n l v r => (∀ a, v = some a → Q [] a) ∧ AllT (fun p => Q (true :: p)) l ∧ AllT (fun p => Q (false :: p)) r

theorem AllT.get : ∀ {t : Tr AFunc} {Q : List Bool → AFunc → Prop} {p : List Bool} {a : AFunc}, AllT Q t → getP t p = some a → Q p a := by
  intro t
  induction t with
  | e => intro Q p a _ h; cases h
  | n l v r ihl ihr =>
    intro Q p a h hg
    cases p with
    | nil => exact h.1 a hg
    | cons b p =>
      have hg' : cond b (getP l p) (getP r p) = some a := hg
      cases b with
      | true => exact ihl (Q := fun p => Q (true :: p)) h.2.1 hg'
      | false => exact ihr (Q := fun p => Q (false :: p)) h.2.2 hg'

def At0 (P : Program) (ins : List Nat) (p : List Bool) (a : AFunc) : Prop := ∀ g, at_ g = p → FnOk P ins g a

theorem leaf {P : Program} {ins : List Nat} {i : Nat} {x : AFunc} {p : List Bool} (hp : at_ i = p) (h : FnOk P ins i x) : ∀ a, some x = some a → At0 P ins p a := by
  intro a ha g hg
  cases ha
  have : g = i := at_inj (hg.trans hp.symm)
  rw [this]
  exact h
theorem noLeaf {Q : AFunc → Prop} : ∀ a, (none : Option AFunc) = some a → Q a := by
  intro a h
  cases h

theorem table_ok {P : Program} {ins : List Nat} {t : Tr AFunc} (h : AllT (At0 P ins) t) (g : Nat) (af : AFunc) (hg : getP t (at_ g) = some af) : FnOk P ins g af := (h.get hg) g rfl
end Go.Eng
