/- THE LAW TreeDiffer, IN PLAIN LEAN: its printed function says true. -/
import Derived.Test.YtlcmpmodfkmfnaaDoorTreeL
import Derived.Test.YtlcmpmodfkmfnaaDoorQLTreeDiffer
set_option linter.unusedVariables false
set_option linter.unusedSimpArgs false
namespace Go.Proofs.YtlcmpmodfkmfnaaDoor
open Go.RowKit Go.Proofs.YtlcmpmodfkmfnaaDoor.Q Go.Proofs.YtlcmpmodfkmfnaaDoorW.PrintWords

/-! ### TreeDiffer -/
theorem TreeDiffer_pure (a b : List ByteArray) (ha : a.length * 16 ≤ 140737488351232 ∧ ∀ x ∈ a, x.size ≤ 140737488351232) (hb : b.length * 16 ≤ 140737488351232 ∧ ∀ x ∈ b, x.size ≤ 140737488351232) : ∃ k, cartouchelaw03_TreeDiffer.f k a b = some true := by
  have hsa := small_of ha; have hsb := small_of hb
  refine Ev.rounds (g := fun k => cartouchelaw03_TreeDiffer.f k a b) ?_
  unfold cartouchelaw03_TreeDiffer.f
  simp only [shown_f, Option.bind_some]
  have up : Ev (fun k => cartouchelaw03_TreeDiffer.j1 k a b true true) true := by
    refine Ev.step (f := fun _ => some true) (fun k => ?_) (Ev.now _)
    simp only [cartouchelaw03_TreeDiffer.j1, if_true]
  have off : Ev (fun k => cartouchelaw03_TreeDiffer.j0 k a b true false) true := by
    refine Ev.step (f := fun k => (cartoucheref01_Same.f k a b).bind fun _ => cartouchelaw03_TreeDiffer.j1 k a b true true) (fun k => ?_) (Ev.bind (rsame_f a b (len_of ha)) up)
    simp only [cartouchelaw03_TreeDiffer.j0, Root_f a hsa, Root_f b hsb, Option.bind_some, Bool.false_eq_true, if_false]
  refine Ev.bind (few_f a (len_of ha)) ?_
  cases hf : fewV a.length a with
  | false => simp only [Bool.false_eq_true, if_false]; exact off
  | true =>
    obtain ⟨a200, _⟩ := fewV_spec _ _ hf
    simp only [if_true]
    refine Ev.bind (few_f b (len_of hb)) ?_
    cases hg : fewV b.length b with
    | false => exact off
    | true =>
      obtain ⟨b200, _⟩ := fewV_spec _ _ hg
      have hRa : rootR a = (sumB (rootB a.length (TM.crownL sumB a)), 0) := by unfold rootR; rw [if_neg (by omega)]
      have hRb : rootR b = (sumB (rootB b.length (TM.crownL sumB b)), 0) := by unfold rootR; rw [if_neg (by omega)]
      refine Ev.step (f := fun k => (cartoucheref01_Same.f k a b).bind fun t228 => (if t228 = true then (cartouchelaw03_TreeDiffer.j1 k a b true true) else (cartouchelaw03_TreeDiffer.j1 k a b true ((sumB (rootB a.length (TM.crownL sumB a))).toList != (sumB (rootB b.length (TM.crownL sumB b))).toList)))) (fun k => ?_) ?_
      · simp only [cartouchelaw03_TreeDiffer.j0, Root_f a hsa, Root_f b hsb, Option.bind_some, if_true, hRa, hRb]
      · refine Ev.bind (rsame_f a b (len_of ha)) ?_
        by_cases hab : a = b
        · rw [decide_eq_true hab]
          simp only [if_true]
          exact up
        · rw [decide_eq_false hab]
          simp only [Bool.false_eq_true, if_false]
          by_cases hr : sumB (rootB a.length (TM.crownL sumB a)) = sumB (rootB b.length (TM.crownL sumB b))
          · rw [show ((sumB (rootB a.length (TM.crownL sumB a))).toList != (sumB (rootB b.length (TM.crownL sumB b))).toList) = false by rw [hr]; simp]
            have hfd := differ_found a b hab a200 b200 hr
            obtain ⟨g1, g2, _⟩ := differR_good a b hfd
            obtain ⟨z1, z2⟩ := differR_size a b hsa hsb
            refine Ev.step (f := fun k => (tree_Differ.f k a b).bind fun bt233 => (if bt233.2.2 = true then (if bt233.1.toList = bt233.2.1.toList then (some false) else ((cartoucheref02_Sum.f bt233.1).bind fun t236 => ((cartoucheref02_Sum.f bt233.2.1).bind fun t237 => (some (t236.toList == t237.toList))))) else (some false))) (fun k => by simp only [cartouchelaw03_TreeDiffer.j1, Bool.false_eq_true, if_false, if_true]) ?_
            refine Ev.bind (differ_f a b a200 b200 hsa hsb).1 ?_
            rw [if_pos hfd, if_neg (fun e => g1 (toList_inj.1 e)), rsum_f _ z1, rsum_f _ z2]
            refine Ev.congr (f := fun _ => some true) (fun k => ?_) (Ev.now _)
            refine Eq.trans (Option.bind_some _ _) (Eq.trans (Option.bind_some _ _) ?_)
            rw [g2]
            simp
          · rw [show ((sumB (rootB a.length (TM.crownL sumB a))).toList != (sumB (rootB b.length (TM.crownL sumB b))).toList) = true from bne_iff_ne.mpr (fun e => hr (toList_inj.1 e))]
            exact up

end Go.Proofs.YtlcmpmodfkmfnaaDoor
