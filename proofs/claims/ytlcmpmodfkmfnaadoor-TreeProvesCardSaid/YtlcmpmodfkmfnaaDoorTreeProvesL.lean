/- THE LAW TreeProves, IN PLAIN LEAN: its printed function says true. -/
import Derived.Test.YtlcmpmodfkmfnaaDoorTreeL
import Derived.Test.YtlcmpmodfkmfnaaDoorQLTreeProves
set_option linter.unusedVariables false
set_option linter.unusedSimpArgs false
namespace Go.Proofs.YtlcmpmodfkmfnaaDoor
open Go.RowKit Go.Proofs.YtlcmpmodfkmfnaaDoor.Q Go.Proofs.YtlcmpmodfkmfnaaDoorW.PrintWords

/-! ### TreeProves -/
theorem TreeProves_pure (l : List ByteArray) (i : Int) (hl : l.length * 16 ≤ 140737488351232 ∧ ∀ x ∈ l, x.size ≤ 140737488351232) (_ : (Lit.int .i64 i).wf = true) : ∃ k, cartouchelaw03_TreeProves.f k l i = some true := by
  have hs := small_of hl
  refine Ev.rounds (g := fun k => cartouchelaw03_TreeProves.f k l i) ?_
  unfold cartouchelaw03_TreeProves.f
  simp only [shown_f, Option.bind_some]
  refine Ev.bind (few_f l (len_of hl)) ?_
  rw [Root_f l hs]
  refine Ev.congr (fun k => Option.bind_some _ _) ?_
  have up : Ev (fun k => cartouchelaw03_TreeProves.j0 k l i true (rootR l).1 true) true := by
    refine Ev.step (f := fun _ => some true) (fun k => ?_) (Ev.now _)
    simp only [cartouchelaw03_TreeProves.j0, if_true]
  cases hf : fewV l.length l with
  | false => simp only [Bool.false_eq_true, if_false]; exact up
  | true =>
    obtain ⟨h200, _⟩ := fewV_spec _ _ hf
    have hR : rootR l = (sumB (rootB l.length (TM.crownL sumB l)), 0) := by unfold rootR; rw [if_neg (by omega)]
    simp only [if_true, hR]
    rw [hR] at up
    by_cases h0 : i < 0
    · simp only [if_pos h0]
      exact up
    · simp only [if_neg h0]
      by_cases h1 : (l.length : Int) ≤ i
      · rw [decide_eq_true (show i ≥ (l.length : Int) from h1)]
        exact up
      · rw [decide_eq_false (show ¬ i ≥ (l.length : Int) from h1)]
        obtain ⟨I, rfl⟩ : ∃ I : Nat, i = (I : Int) := ⟨i.toNat, by omega⟩
        refine Ev.step (f := fun _ => some true) (fun k => ?_) (Ev.now _)
        simp only [cartouchelaw03_TreeProves.j0, Bool.false_eq_true, if_false]
        rw [path_f l _ hs]
        refine Eq.trans (Option.bind_some _ _) ?_
        have hP : pathR l (I : Int) = (TM.pathL sumB l I, 0) := by
          unfold pathR
          rw [if_neg (by omega), if_neg (by omega), Int.toNat_natCast]
        rw [hP]
        simp only [if_true]
        rw [if_pos (by omega), if_pos (by omega), rd_nat]
        have hsi : (l.getD I ByteArray.empty).size ≤ 562949953421311 := hs _ (by
          rw [List.getD_eq_getElem?_getD, List.getElem?_eq_getElem (by omega)]
          exact List.getElem_mem _)
        rw [check_f _ _ _ _ _ hsi, check_path l I (by omega) (by omega)]
        rfl

end Go.Proofs.YtlcmpmodfkmfnaaDoor
