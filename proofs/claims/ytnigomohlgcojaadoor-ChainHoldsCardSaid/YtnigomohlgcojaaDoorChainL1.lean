/- THE LAWS ChainMakes, ChainSums, ChainHolds, IN PLAIN LEAN. -/
import Derived.Test.YtnigomohlgcojaaDoorChainS
import Derived.Test.YtnigomohlgcojaaDoorR3
import Derived.Test.YtnigomohlgcojaaDoorR5
import Derived.Test.YtnigomohlgcojaaDoorR6
set_option linter.unusedVariables false
set_option linter.unusedSimpArgs false
namespace Go.Proofs.YtnigomohlgcojaaDoor
open Go.RowKit Go.Proofs.YtnigomohlgcojaaDoor.Q Go.Proofs.YtnigomohlgcojaaDoorW.PrintWords

theorem ChainMakes_pure (p b : ByteArray) (l : List ByteArray) (hp : p.size ≤ 140737488351232) (hb : b.size ≤ 140737488351232) (hl : l.length * 16 ≤ 140737488351232 ∧ ∀ x ∈ l, x.size ≤ 140737488351232) : ∃ k, R.cartouchelaw04_ChainMakes.f k p b l = some true := by
  refine Ev.rounds (g := fun k => R.cartouchelaw04_ChainMakes.f k p b l) ?_
  unfold R.cartouchelaw04_ChainMakes.f
  simp only [shown_f, few_f, Option.bind_some]
  by_cases h : l.length ≤ 200
  · simp only [decide_eq_true (show (l.length : Int) ≤ 200 by omega), if_true, input_f, rinput_f, next_f, rnext_f, Option.bind_some, head_f l (by omega), links_f l (by omega)]
    refine Ev.bind (rhead_f l (by omega)) (Ev.bind (rlinks_f l (by omega)) (Ev.bind (rsame_f (linksR l).1 ?_) ?_))
    · have := linksL_length ⟨#[]⟩ l
      unfold linksR
      split
      · show (linksL _ _).length ≤ _
        omega
      · show (0 : Nat) ≤ _
        omega
    · simp only [if_true, beq_self_eq_true]
      exact Ev.now _
  · simp only [decide_eq_false (show ¬ (l.length : Int) ≤ 200 by omega), Bool.false_eq_true, if_false]
    exact Ev.now _
theorem ChainSums_pure (p b : ByteArray) (hp : p.size ≤ 140737488351232) (hb : b.size ≤ 140737488351232) : R.cartouchelaw04_ChainSums.f p b = some true := by
  unfold R.cartouchelaw04_ChainSums.f blake_Sum.f
  simp only [shown_f, input_f, next_f, Option.bind_some, if_true]
  unfold inputR nextR
  by_cases h : p.size ≤ 65535 ∧ b.size ≤ 65535
  · have hg := inB_ge p b
    simp only [if_pos h, if_true, sum_inB h, Option.bind_some]
    rw [if_pos (by rw [sumB_size]; rfl), wrap_id (x := (p.size : Int) + (b.size : Int)) (by omega) (by omega), wrap_id (by omega) (by omega), decide_eq_true (by omega)]
  · simp only [if_neg h, if_neg (show ¬ (4 : Int) = 0 by decide), if_true]
    by_cases h1 : (p.size : Int) > 65535
    · rw [if_pos h1]
    · rw [if_neg h1, decide_eq_true (by omega)]
theorem ChainHolds_pure (l : List ByteArray) (o : ByteArray) (hl : l.length * 16 ≤ 140737488351232 ∧ ∀ x ∈ l, x.size ≤ 140737488351232) (ho : o.size ≤ 140737488351232) : ∃ k, R.cartouchelaw04_ChainHolds.f k l o = some true := by
  refine Ev.rounds (g := fun k => R.cartouchelaw04_ChainHolds.f k l o) ?_
  have bad : ∀ h, Ev (fun k => R.cartouchelaw04_ChainHolds.j0 k l o true h true) true := fun h => by
    refine Ev.step (f := fun _ => some _) (fun k => ?_) (Ev.now _)
    simp only [R.cartouchelaw04_ChainHolds.j0, if_true]
  unfold R.cartouchelaw04_ChainHolds.f
  simp only [shown_f, few_f, Option.bind_some, head_f l (by omega)]
  by_cases h : l.length ≤ 200
  · simp only [decide_eq_true (show (l.length : Int) ≤ 200 by omega), if_true]
    by_cases h0 : (headR ⟨#[]⟩ l).2 = 0
    · simp only [show ((headR ⟨#[]⟩ l).2 != 0) = false by simp [h0]]
      have hL : linksR l = (linksL ⟨#[]⟩ l, 0) := by unfold linksR; rw [if_pos h0]
      have hlen := linksL_length ⟨#[]⟩ l
      refine Ev.step (f := fun k => _) (fun k => by
        simp only [R.cartouchelaw04_ChainHolds.j0, Bool.false_eq_true, if_false, if_true, links_f l (by omega), Option.bind_some, hL]
        rw [if_pos (by omega)]) ?_
      refine Ev.bind (check_f _ _ (by omega)) ?_
      rw [chk_links _ _ _ h0, if_pos rfl]
      simp only [if_true]
      by_cases he : o = (headR ⟨#[]⟩ l).1
      · simp only [if_pos (toList_inj.2 he)]
        exact Ev.now _
      · simp only [if_neg (show ¬ o.toList = (headR ⟨#[]⟩ l).1.toList from fun h => he (toList_inj.1 h))]
        refine Ev.bind (check_f _ o (by omega)) ?_
        rw [chk_links _ _ _ h0, if_neg (fun h => he h.symm)]
        exact Ev.now _
    · simp only [show ((headR ⟨#[]⟩ l).2 != 0) = true from bne_iff_ne.mpr h0]
      exact bad _
  · simp only [decide_eq_false (show ¬ (l.length : Int) ≤ 200 by omega), Bool.false_eq_true, if_false]
    exact bad _
end Go.Proofs.YtnigomohlgcojaaDoor
