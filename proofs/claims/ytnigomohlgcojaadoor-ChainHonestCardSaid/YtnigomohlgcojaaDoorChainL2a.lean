/- THE LAW ChainHonest, IN PLAIN LEAN. -/
import Derived.Test.YtnigomohlgcojaaDoorChainE
import Derived.Test.YtnigomohlgcojaaDoorR11
set_option linter.unusedVariables false
set_option linter.unusedSimpArgs false
namespace Go.Proofs.YtnigomohlgcojaaDoor
open Go.RowKit Go.Proofs.YtnigomohlgcojaaDoor.Q Go.Proofs.YtnigomohlgcojaaDoorW.PrintWords

theorem Ev_unstep {α : Type} {g : Nat → Option α} {r : α} (h : Ev (fun k => g (k + 1)) r) : Ev g r := Ev.step (fun _ => rfl) h
theorem ChainHonest_pure (a b : List ByteArray) (ha : a.length * 16 ≤ 140737488351232 ∧ ∀ x ∈ a, x.size ≤ 140737488351232) (hb : b.length * 16 ≤ 140737488351232 ∧ ∀ x ∈ b, x.size ≤ 140737488351232) : ∃ k, R.cartouchelaw04_ChainHonest.f k a b = some true := by
  refine Ev.rounds (g := fun k => R.cartouchelaw04_ChainHonest.f k a b) ?_
  have no : Ev (fun k => R.cartouchelaw04_ChainHonest.j0 k a b true false) true := by
    refine Ev.step (f := fun _ => some _) (fun k => ?_) (Ev.now _)
    simp only [R.cartouchelaw04_ChainHonest.j0, Bool.false_eq_true, if_false]
  unfold R.cartouchelaw04_ChainHonest.f
  simp only [shown_f, few_f, Option.bind_some]
  by_cases h1 : a.length ≤ 200
  · simp only [decide_eq_true (show (a.length : Int) ≤ 200 by omega), if_true]
    by_cases h2 : b.length ≤ 200
    · simp only [decide_eq_true (show (b.length : Int) ≤ 200 by omega)]
      refine Ev_unstep ?_
      simp only [R.cartouchelaw04_ChainHonest.j0, if_true]
      refine Ev.bind (differ_f a b h1 h2) ?_
      have hh := differR_honest a b
      generalize differR a b = r at *
      obtain ⟨s, t, is⟩ := r
      simp only at hh ⊢
      cases is with
      | false =>
        simp only [Bool.false_eq_true, if_false]
        exact Ev.now _
      | true =>
        obtain ⟨h3, h4, h5, h6⟩ := hh rfl
        unfold blake_Sum.f
        simp only [if_true, if_neg (show ¬ s.toList = t.toList from fun h => h3 (toList_inj.1 h)), sumF_eq s h5, sumF_eq t h6, Option.bind_some, h4, beq_self_eq_true]
        exact Ev.now _
    · simp only [decide_eq_false (show ¬ (b.length : Int) ≤ 200 by omega)]
      exact no
  · simp only [decide_eq_false (show ¬ (a.length : Int) ≤ 200 by omega), Bool.false_eq_true, if_false]
    exact no
end Go.Proofs.YtnigomohlgcojaaDoor
