/- THE LAW TreeClimbs, IN PLAIN LEAN: its printed function says true. -/
import Derived.Test.YtlcmpmodfkmfnaaDoorTreeL
import Derived.Test.YtlcmpmodfkmfnaaDoorQLTreeClimbs
set_option linter.unusedVariables false
set_option linter.unusedSimpArgs false
namespace Go.Proofs.YtlcmpmodfkmfnaaDoor
open Go.RowKit Go.Proofs.YtlcmpmodfkmfnaaDoor.Q Go.Proofs.YtlcmpmodfkmfnaaDoorW.PrintWords

/-! ### TreeClimbs -/
theorem TreeClimbs_pure (root : ByteArray) (n i : Int) (s : ByteArray) (path : List ByteArray) (h : root.size ≤ 140737488351232 ∧ (Lit.int .i64 n).wf = true ∧ (Lit.int .i64 i).wf = true ∧ s.size ≤ 140737488351232 ∧ path.length * 16 ≤ 140737488351232 ∧ ∀ x ∈ path, x.size ≤ 140737488351232) : ∃ k, cartouchelaw03_TreeClimbs.f k root n i s path = some true := by
  obtain ⟨_, _, _, hs0, hp⟩ := h
  have hs := str_of hs0; have hl := len_of hp
  refine Ev.rounds (g := fun k => cartouchelaw03_TreeClimbs.f k root n i s path) ?_
  unfold cartouchelaw03_TreeClimbs.f
  simp only [shown_f, Option.bind_some]
  rw [climb_f n i s path hs]
  refine Ev.congr (fun k => Option.bind_some _ _) ?_
  refine Ev.bind (rclimb_f n i s path hs hl) ?_
  refine Ev.bind (rsame_f _ _ ?_) ?_
  · by_cases h0 : (climbR n i s path).2 = 0
    · have := (climbR_ok h0 hs).2.2.2.2.1
      have := climb_le12 h0
      omega
    · rw [climbR_bad h0]
      exact Nat.zero_le _
  · simp only [decide_true, if_true]
    rw [check_f root n i s path hs]
    refine Ev.congr (fun k => Option.bind_some _ _) ?_
    refine Ev.bind (rcheck_f root n i s path hs hl) ?_
    simp only [beq_self_eq_true]
    exact Ev.now _

end Go.Proofs.YtlcmpmodfkmfnaaDoor
