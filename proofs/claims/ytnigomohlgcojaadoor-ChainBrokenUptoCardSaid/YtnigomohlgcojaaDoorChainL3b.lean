/- THE LAWS ChainBroken (of rows that are not too great for a machine), IN PLAIN LEAN. -/
import Derived.Test.YtnigomohlgcojaaDoorChainE
import Derived.Test.YtnigomohlgcojaaDoorR7
set_option linter.unusedVariables false
set_option linter.unusedSimpArgs false
namespace Go.Proofs.YtnigomohlgcojaaDoor
open Go.RowKit Go.Proofs.YtnigomohlgcojaaDoor.Q Go.Proofs.YtnigomohlgcojaaDoorW.PrintWords

/-- A chain with one link's sum ahead turned is none. -/
theorem chk_turned (h q : ByteArray) : ∀ (p : ByteArray) (l : List ByteArray) (i : Nat), i < l.length → (headR p l).2 = 0 → ((linksL p l).getD i z40).f0 ≠ q → chkR h p ((linksL p l).set i ⟨q, ((linksL p l).getD i z40).f1⟩) = 15
  | p, b :: r, 0, _, _, hne => by
    show chkR h p (⟨q, b⟩ :: linksL (nextB p b) r) = 15
    unfold chkR
    exact if_neg fun e => hne e.symm
  | p, b :: r, i + 1, hi, h0, hne => by
    have h1 : (nextR p b).2 = 0 := by
      unfold headR at h0
      by_cases h1 : (nextR p b).2 = 0
      · exact h1
      · rw [if_neg h1] at h0
        exact absurd h0 h1
    unfold headR at h0
    rw [if_pos h1] at h0
    have ih := chk_turned h q (nextB p b) r i (by simpa using hi) (by rw [nextB_eq]; exact h0) hne
    show chkR h p (⟨p, b⟩ :: (linksL (nextB p b) r).set i ⟨q, ((linksL (nextB p b) r).getD i z40).f1⟩) = 15
    unfold chkR
    rw [if_pos rfl, if_pos h1, ← nextB_eq]
    exact ih
theorem ChainBroken_pure (l : List ByteArray) (i : Int) (q : ByteArray) (hl : l.length * 16 ≤ 140737488351232 ∧ ∀ x ∈ l, x.size ≤ 140737488351232) (_ : (Lit.int .i64 i).wf = true) (hq : q.size ≤ 140737488351232) (hu : l.length ≤ 1048576) : ∃ k, R.cartouchelaw04_ChainBroken.f k l i q = some true := by
  refine Ev.rounds (g := fun k => R.cartouchelaw04_ChainBroken.f k l i q) ?_
  unfold R.cartouchelaw04_ChainBroken.f
  simp only [shown_f, few_f, Option.bind_some, head_f l (by omega), links_f l (by omega)]
  by_cases h : l.length ≤ 200
  · simp only [decide_eq_true (show (l.length : Int) ≤ 200 by omega), if_true]
    by_cases h0 : (headR ⟨#[]⟩ l).2 = 0
    · have hL : linksR l = (linksL ⟨#[]⟩ l, 0) := by unfold linksR; rw [if_pos h0]
      have hlen := linksL_length ⟨#[]⟩ l
      simp only [hL, if_true]
      by_cases h1 : i < 0
      · simp only [if_pos h1]; exact Ev.now _
      simp only [if_neg h1]
      by_cases h2 : i ≥ ((linksL ⟨#[]⟩ l).length : Int)
      · simp only [if_pos h2]; exact Ev.now _
      simp only [if_neg h2, if_pos (show 0 ≤ i by omega), if_pos (show i < ((linksL ⟨#[]⟩ l).length : Int) by omega)]
      obtain ⟨n, rfl⟩ := Int.eq_ofNat_of_zero_le (show 0 ≤ i by omega)
      simp only [rdT_nat, toList_inj]
      by_cases h3 : ((linksL ⟨#[]⟩ l).getD n z40).f0 = q
      · simp only [if_pos h3]; exact Ev.now _
      simp only [if_neg h3, List.nil_append, List.length_nil, Option.bind_some]
      simp only [if_pos (show 0 + (linksL ⟨#[]⟩ l).length < 4398046511104 by omega), Option.bind_some, if_pos (show (n : Int) < ((linksL ⟨#[]⟩ l).length : Int) by omega), Int.toNat_natCast]
      refine Ev.bind (check_f _ _ (by rw [List.length_set]; omega)) ?_
      rw [chk_turned _ q ⟨#[]⟩ l n (by omega) h0 h3]
      exact Ev.now _
    · have hL : linksR l = ([], (headR ⟨#[]⟩ l).2) := by unfold linksR; rw [if_neg h0]
      simp only [hL, if_neg h0]
      exact Ev.now _
  · simp only [decide_eq_false (show ¬ (l.length : Int) ≤ 200 by omega), Bool.false_eq_true, if_false]
    exact Ev.now _
end Go.Proofs.YtnigomohlgcojaaDoor
