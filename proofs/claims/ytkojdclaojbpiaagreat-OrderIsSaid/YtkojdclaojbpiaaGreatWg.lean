import Derived.Test.YtkojdclaojbpiaaGreatWf
/- The program's 'IsSt': its contract. -/
namespace Go.Eng
variable {A : AProg} {H : Heap} {nx : Nat} {σ : Slots} {Q : Post}
set_option maxRecDepth 100000

noncomputable instance {n : Int} {es : List (Int × Int)} {l : List Int} : Decidable (IsStP n es l) := Classical.propDecidable _

theorem bfalse {b m : Nat} {H' : Heap} (h : getP H' (at_ b) = some (.cells (repeatN [.bool false] m))) : BArr H' b m (fun _ => false) := ⟨_, h, by rw [repeatN_one]; simp, fun i hi => by rw [repeatN_one, List.getElem?_replicate, if_pos hi]⟩

theorem isst_spec {g : FuncId} (hf : A.funcs g = some xIs) (hh : ∀ g, g ≠ 5 → ∀ vs H nx, A.hook g vs H nx = none) (hg : g ≠ 5) (h21 : A.funcs 21 = some xNMay) (h22 : A.funcs 22 = some xPl) {n : Int} {ev lv : Value} {es : List (Int × Int)} {l : List Int} (he : SlE H nx 2 encP ev es) (hl : SlE H nx 1 encI lv l) (hm4 : l.length ≤ 4000) (hlen : es.length ≤ 4000) :
    WF A g [.agg #[.int .i64 n, ev], lv] H nx fun v H' nx' => Same H H' nx ∧ nx ≤ nx' ∧ v = if May n es then .tuple #[.bool (decide (IsStP n es l)), .int .i64 0] else .tuple #[.bool false, .int .i64 1] := by
  obtain ⟨base, c, rfl⟩ := he.form
  obtain ⟨lbase, lc, rfl⟩ := hl.form
  refine WF.enter (hh g hg _ _ _) hf ?_
  repeat' (first | ((first | refine WO.n rfl ?_ | refine WO.k rfl ?_); (first | refine Then.of (Act.mov rfl) ?_ | refine Then.of (Act.box rfl) ?_ | refine Then.of (Act.lod rfl (by (with_reducible (first | exact Rd.self | assumption | exact Rd.own (by assumption) | ((repeat ((apply Rd.skip); (with_unfolding_all omega))); first | exact Rd.self | assumption | exact Rd.own (by assumption))))) rfl) ?_)) | with_reducible refine WO.nil ?_ | with_reducible refine WC.reg ?_ | with_reducible refine WC.seq ?_ | with_reducible refine stN ?_)
  refine WO.cn rfl ?_
  refine (nmay_spec h21 (hh 21 (by decide)) ((he.same (Same.refl.set (Nat.le_refl _))).up (Nat.le_succ _))).of ?_
  rintro _ H1 nx1 ⟨rfl, hs1, hn1⟩
  have hb1 : Rd H1 nx [.int .i64 n, .slice base es.length c] := hs1.rd (by omega) Rd.self
  have hs01 : Same H H1 nx := (Same.refl.set (Nat.le_refl _)).trans hs1 (by omega)
  clear hs1
  by_cases hmay : May n es
  · rw [decide_eq_true hmay]
    repeat' (first | ((first | refine WO.n rfl ?_ | refine WO.k rfl ?_); (first | refine Then.of (Act.fad rfl) ?_ | refine Then.of (Act.not rfl) ?_ | refine Then.of (Act.lod rfl (by (with_reducible (first | exact Rd.self | assumption | exact Rd.own (by assumption) | ((repeat ((apply Rd.skip); (with_unfolding_all omega))); first | exact Rd.self | assumption | exact Rd.own (by assumption))))) rfl) ?_)) | with_reducible refine WO.nil ?_ | with_reducible refine WC.reg ?_ | with_reducible refine WC.seq ?_ | with_reducible refine WC.skip ?_ | refine WC.condF rfl ?_ | with_reducible refine stN ?_)
    refine WO.cn rfl ?_
    refine (places_spec h22 (hh 22 (by decide)) ((hl.same hs01).up (by omega)) hm4).of ?_
    rintro _ H2 nx2 ⟨hs2, hn2, hcase⟩
    have hb2 := hs2.rd (by omega) hb1
    have hs02 : Same H H2 nx := hs01.trans hs2 (by omega)
    rcases hcase with ⟨hnp, rfl⟩ | ⟨hp, at_, ca, rfl, hpl, hlt, harr⟩
    · repeat' (first | ((first | refine WO.n rfl ?_ | refine WO.k rfl ?_); (first | refine Then.of (Act.mov rfl) ?_ | refine Then.of (Act.ext rfl rfl) ?_ | refine Then.of (Act.not rfl) ?_ | refine Then.of (Act.pick rfl rfl rfl) ?_)) | refine WO.gNo rfl ?_ | with_reducible refine WO.nil ?_ | with_reducible refine WC.reg ?_ | with_reducible refine WC.seq ?_ | with_reducible refine WC.ret ?_ | refine WC.condT rfl ?_ | with_reducible refine stN ?_ | with_reducible refine stR ?_)
      exact fin_ret (vs := [_, _]) rfl ⟨hs02, by omega, by rw [if_pos hmay, decide_eq_false (fun h => hnp h.1)]; rfl⟩
    · obtain rfl : n = l.length := hp.1.symm
      repeat' (first | ((first | refine WO.n rfl ?_ | refine WO.k rfl ?_); (first | refine Then.of (Act.mov rfl) ?_ | refine Then.of (Act.ext rfl rfl) ?_ | refine Then.of (Act.fad rfl) ?_ | refine Then.of (Act.len rfl) ?_ | refine Then.of (Act.not rfl) ?_ | refine Then.of (Act.pick rfl rfl rfl) ?_ | refine Then.of (Act.lod rfl (by (with_reducible (first | exact Rd.self | assumption | exact Rd.own (by assumption) | ((repeat ((apply Rd.skip); (with_unfolding_all omega))); first | exact Rd.self | assumption | exact Rd.own (by assumption))))) rfl) ?_ | refine Then.of (Act.mks rfl rfl (by omega) (by unfold small; omega) (by unfold small; omega) (by omega)) ?_ | ((refine Then.both (Act.lss rfl rfl) (fun h => ?_) (fun h => ?_)) <;> (try simp only [Int.ofNat_eq_natCast] at h)))) | refine WO.gYes rfl ?_ | with_reducible refine WO.nil ?_ | with_reducible refine WC.reg ?_ | with_reducible refine WC.drawn ?_ | with_reducible refine WC.seq ?_ | with_reducible refine WC.skip ?_ | with_reducible refine WC.ret ?_ | with_reducible refine WC.block ?_ | refine WC.condT rfl ?_ | refine WC.condF rfl ?_ | with_reducible refine stN ?_ | with_reducible refine stR ?_ | with_reducible refine drN ?_)
      · exact fin_ret (vs := [_, _]) rfl ⟨hs02, by omega, by rw [if_pos hmay, decide_eq_false (fun h => by have := h.2.1; omega)]; rfl⟩
      · refine WC.sub (.cons rfl (.cons rfl (.cons rfl (.cons rfl (.cons rfl (.cons rfl (.cons rfl (.nil _)))))))) (isA (lv := .slice lbase l.length lc) (na := nx1) (nb := nx2) (nc := nx2 + 1) he hlen hmay.2.2.2 hp hpl rfl (by omega) (by omega) (by omega) (by omega) ((hs02.set (by omega)).set (by omega))
          ((harr.skip (by omega)).skip (by omega)) (bfalse (by (with_reducible (first | exact get_self | assumption | ((repeat ((apply get_skip); (with_unfolding_all omega))); first | exact get_self | assumption))))) (bfalse (by (with_reducible (first | exact get_self | assumption | ((repeat ((apply get_skip); (with_unfolding_all omega))); first | exact get_self | assumption))))) (fun A' B' σ H3 nx3 hσ hs3 hn3 hA hB sA sB => ?_))
        obtain ⟨b, o, cs, rfl, hbx, _, hcap, hr, hcs⟩ := hl.at (by intro e; rw [e] at h; simp at h)
        refine bkE (stN (WC.sub hσ ?_))
        repeat' (first | ((first | refine WO.n rfl ?_ | refine WO.k rfl ?_); (first | refine Then.of (Act.mov rfl) ?_ | refine Then.of (Act.len rfl) ?_ | refine Then.of (Act.slc rfl rfl rfl (by omega) (by omega)) ?_ | refine Then.of (Act.subN rfl rfl (by omega) (by omega)) ?_)) | with_reducible refine WO.nil ?_ | with_reducible refine WC.reg ?_ | with_reducible refine WC.seq ?_ | with_reducible refine WC.block ?_ | with_reducible refine stN ?_)
        have hin := fun x hx => hp.2.1 x hx
        have key : (∀ (i v : Nat), 1 ≤ i → i + 1 < l.length → l[i]? = some (v : Int) → A' v = true ∧ B' v = true) ↔ IsStP l.length es l := by
          constructor
          · intro hh
            refine ⟨hp, by omega, fun i h1 h2 => ?_⟩
            obtain ⟨v, hv⟩ : ∃ v : Nat, l[i] = v := ⟨l[i].toNat, by have := hin _ (List.getElem_mem (show i < l.length by omega)); omega⟩
            have hlv : l[i]? = some (v : Int) := by rw [List.getElem?_eq_getElem (by omega), hv]
            have hvm : v < l.length := by have := hin _ (List.getElem_mem (show i < l.length by omega)); omega
            obtain ⟨q1, q2⟩ := hh i v h1 h2 hlv
            exact ⟨(lower_iff hp hpl hmay.2.2.2 hlv).2 ((sA.all hvm).1 q1), (higher_iff hp hpl hmay.2.2.2 hlv).2 ((sB.all hvm).1 q2)⟩
          · rintro ⟨_, _, hh⟩ i v h1 h2 hlv
            have hvm : v < l.length := by have := hin _ (List.mem_of_getElem? hlv); omega
            obtain ⟨q1, q2⟩ := hh i h1 h2
            exact ⟨(sA.all hvm).2 ((lower_iff hp hpl hmay.2.2.2 hlv).1 q1), (sB.all hvm).2 ((higher_iff hp hpl hmay.2.2.2 hlv).1 q2)⟩
        refine WC.sub (.cons rfl (.cons rfl (.cons rfl (.cons rfl (.cons rfl (.nil _)))))) (isB (hs3.rd hbx hr) hcs hin rfl hm4 (by omega) hA hB (fun hn σ hσ => ?_) (fun hy σ => ?_))
        · repeat' (first | with_reducible refine stR ?_ | with_reducible refine bkR ?_)
          exact fin_ret' (vs := [_, _]) hσ rfl ⟨hs3, by omega, by rw [if_pos hmay, decide_eq_false (fun h => hn (key.2 h))]; rfl⟩
        · refine bkE (stN (WC.sub (.nil _) ?_))
          repeat' (first | (refine WO.k rfl ?_; refine Then.of (Act.mov rfl) ?_) | with_reducible refine WO.nil ?_ | with_reducible refine WC.reg ?_ | with_reducible refine WC.seq ?_ | with_reducible refine WC.ret ?_ | with_reducible refine stN ?_)
          exact fin_ret (vs := [_, _]) rfl ⟨hs3, by omega, by rw [if_pos hmay, decide_eq_true (key.1 hy)]; rfl⟩
  · rw [decide_eq_false hmay]
    repeat' (first | (refine WO.k rfl ?_; (first | refine Then.of (Act.mov rfl) ?_ | refine Then.of (Act.not rfl) ?_)) | with_reducible refine WO.nil ?_ | with_reducible refine WC.reg ?_ | with_reducible refine WC.seq ?_ | with_reducible refine WC.ret ?_ | refine WC.condT rfl ?_ | with_reducible refine stN ?_ | with_reducible refine stR ?_)
    exact fin_ret (vs := [_, _]) rfl ⟨hs01, by omega, by rw [if_neg hmay]; rfl⟩
end Go.Eng
