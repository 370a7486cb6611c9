/- THE LAW TreeRoots, IN PLAIN LEAN: its printed function says true. -/
import Derived.Test.YtlcmpmodfkmfnaaDoorTreeL
import Derived.Test.YtlcmpmodfkmfnaaDoorQLTreeRoots
set_option linter.unusedVariables false
set_option linter.unusedSimpArgs false
namespace Go.Proofs.YtlcmpmodfkmfnaaDoor
open Go.RowKit Go.Proofs.YtlcmpmodfkmfnaaDoor.Q Go.Proofs.YtlcmpmodfkmfnaaDoorW.PrintWords

/-! ### TreeRoots -/
theorem TreeRoots_pure (l : List ByteArray) (i : Int) (a b : ByteArray) (h : (l.length * 16 ≤ 140737488351232 ∧ ∀ x ∈ l, x.size ≤ 140737488351232) ∧ (Lit.int .i64 i).wf = true ∧ a.size ≤ 140737488351232 ∧ b.size ≤ 140737488351232) : ∃ k, cartouchelaw03_TreeRoots.f k l i a b = some true := by
  obtain ⟨hl, _, ha, hb⟩ := h
  have hs := small_of hl
  refine Ev.rounds (g := fun k => cartouchelaw03_TreeRoots.f k l i a b) ?_
  unfold cartouchelaw03_TreeRoots.f
  simp only [shown_f, Option.bind_some]
  refine Ev.bind (few_f l (len_of hl)) ?_
  cases hf : fewV l.length l with
  | false => simp only [Bool.false_eq_true, if_false]; exact Ev.now _
  | true =>
    obtain ⟨h200, _⟩ := fewV_spec _ _ hf
    simp only [if_true]
    rw [Root_f l hs]
    refine Ev.congr (f := fun k => (cartoucheref03_Root.f k l).bind _) (fun k => Option.bind_some _ _) ?_
    refine Ev.bind (rRoot_f l hs) ?_
    rw [path_f l i hs]
    refine Ev.congr (f := fun k => (cartoucheref03_Path.f k l i).bind _) (fun k => Option.bind_some _ _) ?_
    refine Ev.bind (rpath_f l i hs) ?_
    have hpl : (pathR l i).1.length ≤ 9223372036854775806 := by
      unfold pathR
      split
      · exact Nat.zero_le _
      · split
        · exact Nat.zero_le _
        · have := path_le l i.toNat (by omega) (by omega)
          show (TM.pathL sumB l i.toNat).length ≤ _
          omega
    refine Ev.bind (rsame_f _ _ hpl) ?_
    simp only [decide_true, if_true, Leaf_f a (str_of ha), rLeaf_f a (str_of ha), Node_f a b (by omega), rNode_f a b (by omega), Option.bind_some, beq_self_eq_true]
    exact Ev.now _

end Go.Proofs.YtlcmpmodfkmfnaaDoor
