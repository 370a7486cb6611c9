/- THE LAW PassEqual, IN PLAIN LEAN. -/
import Derived.Test.YtllkgojhpbacmaaDoorPassLaws
import Derived.Test.YtllkgojhpbacmaaDoorR
set_option linter.unusedVariables false
set_option linter.unusedSimpArgs false
namespace Go.Proofs.YtllkgojhpbacmaaDoor
open Go.RowKit Go.Proofs.YtllkgojhpbacmaaDoor.Q Go.Proofs.YtllkgojhpbacmaaDoor.R Go.Proofs.YtllkgojhpbacmaaDoorW.PrintWords

theorem PassEqual_pure (a b : ByteArray) (ha : a.size ≤ 140737488351232) (hb : b.size ≤ 140737488351232) : ∃ k, R.cartouchelaw05_PassEqual.f k a b = some true := by
  refine Ev.rounds (g := fun k => R.cartouchelaw05_PassEqual.f k a b) ?_
  unfold R.cartouchelaw05_PassEqual.f
  refine Ev.bind shown_f ?_
  simp only [if_true]
  refine Ev.bind (equal_f a b (by omega)) ?_
  have e : (a.toList == b.toList) = decide (a = b) := by
    rw [Bool.eq_iff_iff, beq_iff_eq, decide_eq_true_iff]
    exact toList_inj
  have e2 : decide (b = a) = decide (a = b) := decide_eq_decide.2 ⟨Eq.symm, Eq.symm⟩
  simp only [e, beq_self_eq_true, if_true]
  refine Ev.bind (equal_f b a (by omega)) ?_
  simp only [e2, beq_self_eq_true, if_true]
  have h := equal_f a a (by omega)
  rw [decide_eq_true rfl] at h
  exact Ev.bind h (Ev.now _)
end Go.Proofs.YtllkgojhpbacmaaDoor
