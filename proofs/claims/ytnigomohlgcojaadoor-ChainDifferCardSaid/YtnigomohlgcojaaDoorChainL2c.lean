/- THE LAW ChainDiffer, IN PLAIN LEAN. -/
import Derived.Test.YtnigomohlgcojaaDoorChainE
import Derived.Test.YtnigomohlgcojaaDoorR10
set_option linter.unusedVariables false
set_option linter.unusedSimpArgs false
namespace Go.Proofs.YtnigomohlgcojaaDoor
open Go.RowKit Go.Proofs.YtnigomohlgcojaaDoor.Q Go.Proofs.YtnigomohlgcojaaDoorW.PrintWords

theorem Ev_unstep {α : Type} {g : Nat → Option α} {r : α} (h : Ev (fun k => g (k + 1)) r) : Ev g r := Ev.step (fun _ => rfl) h
theorem ChainDiffer_pure (a b : List ByteArray) (ha : a.length * 16 ≤ 140737488351232 ∧ ∀ x ∈ a, x.size ≤ 140737488351232) (hb : b.length * 16 ≤ 140737488351232 ∧ ∀ x ∈ b, x.size ≤ 140737488351232) : ∃ k, R.cartouchelaw04_ChainDiffer.f k a b = some true := by
  refine Ev.rounds (g := fun k => R.cartouchelaw04_ChainDiffer.f k a b) ?_
  have no1 : Ev (fun k => R.cartouchelaw04_ChainDiffer.j1 k a b true true) true := by
    refine Ev.step (f := fun _ => some _) (fun k => ?_) (Ev.now _)
    simp only [R.cartouchelaw04_ChainDiffer.j1, if_true]
  have hsame := strSame_f a b (by omega)
  have no : Ev (fun k => R.cartouchelaw04_ChainDiffer.j0 k a b true false) true := by
    refine Ev_unstep ?_
    simp only [R.cartouchelaw04_ChainDiffer.j0, Bool.false_eq_true, if_false, head_f a (by omega), head_f b (by omega), Option.bind_some]
    exact Ev.bind hsame no1
  unfold R.cartouchelaw04_ChainDiffer.f
  simp only [shown_f, few_f, Option.bind_some]
  by_cases h1 : a.length ≤ 200
  · simp only [decide_eq_true (show (a.length : Int) ≤ 200 by omega), if_true]
    by_cases h2 : b.length ≤ 200
    · simp only [decide_eq_true (show (b.length : Int) ≤ 200 by omega)]
      refine Ev_unstep ?_
      simp only [R.cartouchelaw04_ChainDiffer.j0, if_true, head_f a (by omega), head_f b (by omega), Option.bind_some]
      refine Ev.bind hsame ?_
      by_cases he : a = b
      · simp only [decide_eq_true he, if_true]
        exact no1
      simp only [decide_eq_false he, Bool.false_eq_true, if_false]
      by_cases hl : a.length = b.length
      · simp only [if_pos (show (a.length : Int) = (b.length : Int) by omega)]
        by_cases ea : (headR ⟨#[]⟩ a).2 = 0
        · simp only [if_pos ea]
          by_cases eb : (headR ⟨#[]⟩ b).2 = 0
          · simp only [if_pos eb]
            by_cases hh : (headR ⟨#[]⟩ a).1 = (headR ⟨#[]⟩ b).1
            · simp only [show ((headR ⟨#[]⟩ a).1.toList != (headR ⟨#[]⟩ b).1.toList) = false by simp [hh]]
              refine Ev_unstep ?_
              simp only [R.cartouchelaw04_ChainDiffer.j1, Bool.false_eq_true, if_false, if_true]
              refine Ev.bind (differ_f a b h1 h2) ?_
              have hd := differR_finds a b he hl ea eb hh
              obtain ⟨h3, h4, h5, h6⟩ := differR_honest a b hd
              unfold cartoucheref02_Sum.f
              simp only [hd, if_true, if_neg (show ¬ (differR a b).1.toList = (differR a b).2.1.toList from fun h => h3 (toList_inj.1 h)), sumF_eq _ h5, sumF_eq _ h6, Option.bind_some, h4, beq_self_eq_true]
              exact Ev.now _
            · simp only [show ((headR ⟨#[]⟩ a).1.toList != (headR ⟨#[]⟩ b).1.toList) = true from bne_iff_ne.mpr fun h => hh (toList_inj.1 h)]
              exact no1
          · simp only [if_neg eb]
            exact no1
        · simp only [if_neg ea]
          exact no1
      · simp only [if_neg (show ¬ (a.length : Int) = (b.length : Int) by omega)]
        exact no1
    · simp only [decide_eq_false (show ¬ (b.length : Int) ≤ 200 by omega)]
      exact no
  · simp only [decide_eq_false (show ¬ (a.length : Int) ≤ 200 by omega), Bool.false_eq_true, if_false]
    exact no
end Go.Proofs.YtnigomohlgcojaaDoor
