/- THE LAW TreeHonest, IN PLAIN LEAN: its printed function says true. -/
import Derived.Test.YtlcmpmodfkmfnaaDoorTreeL
import Derived.Test.YtlcmpmodfkmfnaaDoorQLTreeHonest
set_option linter.unusedVariables false
set_option linter.unusedSimpArgs false
namespace Go.Proofs.YtlcmpmodfkmfnaaDoor
open Go.RowKit Go.Proofs.YtlcmpmodfkmfnaaDoor.Q Go.Proofs.YtlcmpmodfkmfnaaDoorW.PrintWords

theorem TreeHonest_pure (n i : Int) (a : ByteArray) (p : List ByteArray) (b : ByteArray) (q l m : List ByteArray) (h : (Lit.int .i64 n).wf = true ∧ (Lit.int .i64 i).wf = true ∧ a.size ≤ 140737488351232 ∧ (p.length * 16 ≤ 140737488351232 ∧ ∀ x ∈ p, x.size ≤ 140737488351232) ∧ b.size ≤ 140737488351232 ∧ (q.length * 16 ≤ 140737488351232 ∧ ∀ x ∈ q, x.size ≤ 140737488351232) ∧ (l.length * 16 ≤ 140737488351232 ∧ ∀ x ∈ l, x.size ≤ 140737488351232) ∧ m.length * 16 ≤ 140737488351232 ∧ ∀ x ∈ m, x.size ≤ 140737488351232) : ∃ k, cartouchelaw03_TreeHonest.f k n i a p b q l m = some true := by
  obtain ⟨_, _, ha0, hp, hb0, hq, hl, hm⟩ := h
  have ha := str_of ha0; have hb := str_of hb0; have hsl := small_of hl; have hsm := small_of hm
  refine Ev.rounds (g := fun k => cartouchelaw03_TreeHonest.f k n i a p b q l m) ?_
  unfold cartouchelaw03_TreeHonest.f
  simp only [shown_f, Option.bind_some]
  have off : Ev (fun k => cartouchelaw03_TreeHonest.j0 k n i a p b q l m true false) true := by
    refine Ev.step (f := fun _ => some true) (fun k => ?_) (Ev.now _)
    simp only [cartouchelaw03_TreeHonest.j0, Bool.false_eq_true, if_false]
  refine Ev.bind (few_f l (len_of hl)) ?_
  cases hf : fewV l.length l with
  | false => simp only [Bool.false_eq_true, if_false]; exact off
  | true =>
    obtain ⟨l200, _⟩ := fewV_spec _ _ hf
    simp only [if_true]
    refine Ev.bind (few_f m (len_of hm)) ?_
    cases hg : fewV m.length m with
    | false => exact off
    | true =>
      obtain ⟨m200, _⟩ := fewV_spec _ _ hg
      have hD := differ_f l m l200 m200 hsl hsm
      obtain ⟨⟨z1, z2⟩, hgd⟩ := clashR_spec n i a p b q ha hb
      obtain ⟨y1, y2⟩ := differR_size l m hsl hsm
      have hdd := differR_good l m
      have fin : Ev (fun k => cartouchelaw03_TreeHonest.j1 k true (differR l m).1 (differR l m).2.1 (differR l m).2.2 false) true := by
        refine Ev.step (f := fun _ => some true) (fun k => ?_) (Ev.now _)
        simp only [cartouchelaw03_TreeHonest.j1, Bool.false_eq_true, if_false, if_true]
        by_cases hb2 : (differR l m).2.2 = true
        · obtain ⟨g1, g2, _⟩ := hdd hb2
          rw [if_pos hb2, if_neg (fun e => g1 (toList_inj.1 e)), rsum_f _ y1, rsum_f _ y2]
          refine Eq.trans (Option.bind_some _ _) (Eq.trans (Option.bind_some _ _) ?_)
          rw [g2]
          simp
        · rw [if_neg hb2]
      refine Ev.step (f := fun k => (tree_Clash.f n i a p b q).bind fun bt408 => _) (fun k => by simp only [cartouchelaw03_TreeHonest.j0, if_true]; rfl) ?_
      rw [clash_f n i a p b q ha hb]
      refine Ev.congr (fun k => Option.bind_some _ _) ?_
      refine Ev.bind hD.1 ?_
      by_cases hc : (clashR n i a p b q).2.2 = true
      · obtain ⟨g1, g2⟩ := hgd hc
        simp only [if_pos hc, if_neg (show ¬ (clashR n i a p b q).1.toList = (clashR n i a p b q).2.1.toList from fun e => g1 (toList_inj.1 e))]
        rw [rsum_f _ z1, rsum_f _ z2]
        refine Ev.congr (fun k => Eq.trans (Option.bind_some _ _) (Option.bind_some _ _)) ?_
        rw [g2, show ((sumB (clashR n i a p b q).2.1).toList != (sumB (clashR n i a p b q).2.1).toList) = false by simp]
        exact fin
      · simp only [if_neg hc]
        exact fin

end Go.Proofs.YtlcmpmodfkmfnaaDoor
