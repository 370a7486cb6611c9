/- THE LAW TreeHalves, IN PLAIN LEAN: its printed function says true. -/
import Derived.Test.YtlcmpmodfkmfnaaDoorTreeL
import Derived.Test.YtlcmpmodfkmfnaaDoorQLTreeHalves
set_option linter.unusedVariables false
set_option linter.unusedSimpArgs false
namespace Go.Proofs.YtlcmpmodfkmfnaaDoor
open Go.RowKit Go.Proofs.YtlcmpmodfkmfnaaDoor.Q Go.Proofs.YtlcmpmodfkmfnaaDoorW.PrintWords

/-! ### TreeHalves -/
theorem TreeHalves_pure (a b : ByteArray) (ha0 : a.size ≤ 140737488351232) (hb0 : b.size ≤ 140737488351232) : ∃ k, cartouchelaw03_TreeHalves.f k a b = some true := by
  have ha := str_of ha0; have hb := str_of hb0
  have hs : ∀ s ∈ [a, b], s.size ≤ 562949953421311 := by
    intro s hs
    simp at hs
    rcases hs with rfl | rfl <;> assumption
  have hR : rootR [a, b] = (sumB (rootB 2 (sumB (TM.nodeB (sumB (TM.leafB a)) (sumB (TM.leafB b))))), 0) := by
    unfold rootR
    rw [if_neg (by simp), TM.crownL_ne sumB (by simp), TM.topL_two sumB [a, b] (by simp)]
    simp only [List.length_cons, List.length_nil, Nat.zero_add, Nat.reduceAdd]
    rw [hN2]
    simp only [List.take_succ_cons, List.take_zero, List.drop_succ_cons, List.drop_zero, TM.topL_one]
  have hW : TM.wayL 0 2 0 = [(true, 1, 2)] := by
    rw [TM.wayL_right (by decide) (by rw [hN2]; decide), hN2, TM.wayL_nil (by decide)]
  have hC : climbR 2 0 a [sumB (TM.leafB b)] = ([TM.leafB a, TM.nodeB (sumB (TM.leafB a)) (sumB (TM.leafB b)), rootB 2 (sumB (TM.nodeB (sumB (TM.leafB a)) (sumB (TM.leafB b))))], 0) := by
    unfold climbR TM.rights
    rw [if_neg (by decide)]
    simp only [show Int.toNat 2 = 2 from rfl, show Int.toNat 0 = 0 from rfl, hW]
    rw [if_neg (by simp [sumB_size])]
    simp [TM.climbF, TM.stepB, TM.lastB]
  refine Ev.rounds (g := fun k => cartouchelaw03_TreeHalves.f k a b) ?_
  unfold cartouchelaw03_TreeHalves.f
  simp only [shown_f, Option.bind_some]
  rw [Root_f _ hs, hR, Leaf_f b hb]
  refine Ev.congr (fun k => Eq.trans (Option.bind_some _ _) (Option.bind_some _ _)) ?_
  rw [climb_f 2 0 a _ ha, hC]
  refine Ev.congr (fun k => Option.bind_some _ _) ?_
  simp only [if_true]
  have s1 := leafB_size a ha
  have s2 : (TM.nodeB (sumB (TM.leafB a)) (sumB (TM.leafB b))).size ≤ 562949953421312 := by rw [nodeB_size, sumB_size, sumB_size]; decide
  have s3 : (rootB 2 (sumB (TM.nodeB (sumB (TM.leafB a)) (sumB (TM.leafB b))))).size ≤ 562949953421312 := Nat.le_trans (rootB_size 2 _ (by rw [sumB_size]; decide)) (by decide)
  refine Ev.step (f := fun _ => some true) (fun k => ?_) (Ev.now _)
  simp only [cartouchelaw03_TreeHalves.j0]
  rw [if_neg (by simp)]
  simp only [if_true]
  rw [if_pos (by simp)]
  rw [show rdOf ByteArray.empty [TM.leafB a, TM.nodeB (sumB (TM.leafB a)) (sumB (TM.leafB b)), rootB 2 (sumB (TM.nodeB (sumB (TM.leafB a)) (sumB (TM.leafB b))))] 2 = rootB 2 (sumB (TM.nodeB (sumB (TM.leafB a)) (sumB (TM.leafB b)))) from rfl,
    show rdOf ByteArray.empty [TM.leafB a, TM.nodeB (sumB (TM.leafB a)) (sumB (TM.leafB b)), rootB 2 (sumB (TM.nodeB (sumB (TM.leafB a)) (sumB (TM.leafB b))))] 1 = TM.nodeB (sumB (TM.leafB a)) (sumB (TM.leafB b)) from rfl,
    show rdOf ByteArray.empty [TM.leafB a, TM.nodeB (sumB (TM.leafB a)) (sumB (TM.leafB b)), rootB 2 (sumB (TM.nodeB (sumB (TM.leafB a)) (sumB (TM.leafB b))))] 0 = TM.leafB a from rfl]
  rw [bsum_f _ s3, bsum_f _ s2, bsum_f _ s1, Leaf_f a ha, Leaf_f b hb]
  refine Eq.trans (Option.bind_some _ _) ?_
  rw [if_pos rfl, if_pos (by simp)]
  refine Eq.trans (Option.bind_some _ _) (Eq.trans (Option.bind_some _ _) (Eq.trans (Option.bind_some _ _) ?_))
  rw [Node_f _ _ (by rw [sumB_size, sumB_size]; decide)]
  refine Eq.trans (Option.bind_some _ _) ?_
  rw [if_pos rfl, if_pos (by simp)]
  refine Eq.trans (Option.bind_some _ _) (Eq.trans (Option.bind_some _ _) ?_)
  simp
end Go.Proofs.YtlcmpmodfkmfnaaDoor
