/- THE LAW TreeClash, IN PLAIN LEAN: its printed function says true. -/
import Derived.Test.YtlcmpmodfkmfnaaDoorTreeL
import Derived.Test.YtlcmpmodfkmfnaaDoorQLTreeClash
set_option linter.unusedVariables false
set_option linter.unusedSimpArgs false
namespace Go.Proofs.YtlcmpmodfkmfnaaDoor
open Go.RowKit Go.Proofs.YtlcmpmodfkmfnaaDoor.Q Go.Proofs.YtlcmpmodfkmfnaaDoorW.PrintWords

/-! ### TreeClash -/
theorem TreeClash_pure (root : ByteArray) (n i : Int) (a : ByteArray) (p : List ByteArray) (b : ByteArray) (q : List ByteArray) (h : root.size ≤ 140737488351232 ∧ (Lit.int .i64 n).wf = true ∧ (Lit.int .i64 i).wf = true ∧ a.size ≤ 140737488351232 ∧ (p.length * 16 ≤ 140737488351232 ∧ ∀ x ∈ p, x.size ≤ 140737488351232) ∧ b.size ≤ 140737488351232 ∧ q.length * 16 ≤ 140737488351232 ∧ ∀ x ∈ q, x.size ≤ 140737488351232) : ∃ k, cartouchelaw03_TreeClash.f k root n i a p b q = some true := by
  obtain ⟨_, _, _, ha0, hp, hb0, hq⟩ := h
  have ha := str_of ha0; have hb := str_of hb0
  refine Ev.rounds (g := fun k => cartouchelaw03_TreeClash.f k root n i a p b q) ?_
  unfold cartouchelaw03_TreeClash.f
  simp only [shown_f, Option.bind_some, toList_inj]
  have up : Ev (fun k => cartouchelaw03_TreeClash.j0 k n i a p b q true true) true := by
    refine Ev.step (f := fun _ => some true) (fun k => ?_) (Ev.now _)
    simp only [cartouchelaw03_TreeClash.j0, if_true]
  by_cases hab : a = b
  · simp only [if_pos hab]
    exact up
  · simp only [if_neg hab]
    rw [check_f root n i a p ha]
    refine Ev.congr (fun k => Option.bind_some _ _) ?_
    by_cases h1 : checkR root n i a p = 0
    · simp only [if_pos h1]
      rw [check_f root n i b q hb]
      refine Ev.congr (fun k => Option.bind_some _ _) ?_
      by_cases h2 : checkR root n i b q = 0
      · rw [show (checkR root n i b q != 0) = false by rw [h2]; rfl]
        have hf := clash_found root n i a p b q hab ha hb h1 h2
        obtain ⟨⟨z1, z2⟩, hg⟩ := clashR_spec n i a p b q ha hb
        obtain ⟨g1, g2⟩ := hg hf
        refine Ev.step (f := fun _ => some true) (fun k => ?_) (Ev.now _)
        simp only [cartouchelaw03_TreeClash.j0, Bool.false_eq_true, if_false]
        rw [clash_f n i a p b q ha hb]
        refine Eq.trans (Option.bind_some _ _) ?_
        simp only [if_true]
        rw [if_pos hf, if_neg (fun e => g1 (toList_inj.1 e)), rsum_f _ z1, rsum_f _ z2]
        refine Eq.trans (Option.bind_some _ _) (Eq.trans (Option.bind_some _ _) ?_)
        rw [g2]
        simp
      · rw [show (checkR root n i b q != 0) = true from bne_iff_ne.mpr h2]
        exact up
    · simp only [if_neg h1]
      exact up

end Go.Proofs.YtlcmpmodfkmfnaaDoor
