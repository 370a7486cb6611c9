/- THE LAW ChainChecks, IN PLAIN LEAN. -/
import Derived.Test.YtnigomohlgcojaaDoorChainE
import Derived.Test.YtnigomohlgcojaaDoorR12
set_option linter.unusedVariables false
set_option linter.unusedSimpArgs false
namespace Go.Proofs.YtnigomohlgcojaaDoor
open Go.RowKit Go.Proofs.YtnigomohlgcojaaDoor.Q Go.Proofs.YtnigomohlgcojaaDoorW.PrintWords

theorem Ev_unstep {α : Type} {g : Nat → Option α} {r : α} (h : Ev (fun k => g (k + 1)) r) : Ev g r := Ev.step (fun _ => rfl) h
theorem ChainChecks_pure (l : List Lk) (h : ByteArray) (a b : List ByteArray) (_ : (l.length * 32 ≤ 140737488351232 ∧ ∀ x ∈ l, x.f0.size ≤ 140737488351232 ∧ x.f1.size ≤ 140737488351232) ∧ h.size ≤ 140737488351232 ∧ (a.length * 16 ≤ 140737488351232 ∧ ∀ x ∈ a, x.size ≤ 140737488351232) ∧ (b.length * 16 ≤ 140737488351232 ∧ ∀ x ∈ b, x.size ≤ 140737488351232)) :
    ∃ k, R.cartouchelaw04_ChainChecks.f k l h a b = some true := by
  refine Ev.rounds (g := fun k => R.cartouchelaw04_ChainChecks.f k l h a b) ?_
  have no1 : Ev (fun k => R.cartouchelaw04_ChainChecks.j1 k l h a b true true) true := by
    refine Ev.step (f := fun _ => some _) (fun k => ?_) (Ev.now _)
    simp only [R.cartouchelaw04_ChainChecks.j1, if_true]
  have no : Ev (fun k => R.cartouchelaw04_ChainChecks.j0 k l h a b true false) true := by
    refine Ev.step (fun k => ?_) no1
    simp only [R.cartouchelaw04_ChainChecks.j0, Bool.false_eq_true, if_false]
  unfold R.cartouchelaw04_ChainChecks.f
  simp only [shown_f, few_f, Option.bind_some]
  by_cases h1 : a.length ≤ 200
  · simp only [decide_eq_true (show (a.length : Int) ≤ 200 by omega), if_true]
    by_cases h2 : b.length ≤ 200
    · simp only [decide_eq_true (show (b.length : Int) ≤ 200 by omega)]
      by_cases h3 : l.length ≤ 200
      · refine Ev.step (f := fun k => R.cartouchelaw04_ChainChecks.j1 k l h a b true false) (fun k => by simp only [R.cartouchelaw04_ChainChecks.j0, if_true, decide_eq_false (show ¬ (l.length : Int) > 200 by omega)]) ?_
        refine Ev_unstep ?_
        simp only [R.cartouchelaw04_ChainChecks.j1, Bool.false_eq_true, if_false, if_true]
        refine Ev.bind (differ_f a b h1 h2) (Ev.bind (rdiffer_f a b h1 h2) (Ev.bind (check_f l h (by omega)) (Ev.bind (rcheck_f l h (by omega)) ?_)))
        simp only [if_true, beq_self_eq_true]
        exact Ev.now _
      · refine Ev.step (f := fun k => R.cartouchelaw04_ChainChecks.j1 k l h a b true true) (fun k => by simp only [R.cartouchelaw04_ChainChecks.j0, if_true, decide_eq_true (show (l.length : Int) > 200 by omega)]) no1
    · simp only [decide_eq_false (show ¬ (b.length : Int) ≤ 200 by omega)]
      exact no
  · simp only [decide_eq_false (show ¬ (a.length : Int) ≤ 200 by omega), Bool.false_eq_true, if_false]
    exact no
end Go.Proofs.YtnigomohlgcojaaDoor
