/- THE LAW TreeGives, IN PLAIN LEAN: its printed function says true. -/
import Derived.Test.YtlcmpmodfkmfnaaDoorTreeL
import Derived.Test.YtlcmpmodfkmfnaaDoorQLTreeGives
set_option linter.unusedVariables false
set_option linter.unusedSimpArgs false
namespace Go.Proofs.YtlcmpmodfkmfnaaDoor
open Go.RowKit Go.Proofs.YtlcmpmodfkmfnaaDoor.Q Go.Proofs.YtlcmpmodfkmfnaaDoorW.PrintWords

/-! ### TreeGives, TreeHonest -/
theorem TreeGives_pure (n i : Int) (a : ByteArray) (p : List ByteArray) (b : ByteArray) (q l m : List ByteArray) (h : (Lit.int .i64 n).wf = true ∧ (Lit.int .i64 i).wf = true ∧ a.size ≤ 140737488351232 ∧ (p.length * 16 ≤ 140737488351232 ∧ ∀ x ∈ p, x.size ≤ 140737488351232) ∧ b.size ≤ 140737488351232 ∧ (q.length * 16 ≤ 140737488351232 ∧ ∀ x ∈ q, x.size ≤ 140737488351232) ∧ (l.length * 16 ≤ 140737488351232 ∧ ∀ x ∈ l, x.size ≤ 140737488351232) ∧ m.length * 16 ≤ 140737488351232 ∧ ∀ x ∈ m, x.size ≤ 140737488351232) : ∃ k, cartouchelaw03_TreeGives.f k n i a p b q l m = some true := by
  obtain ⟨_, _, ha0, hp, hb0, hq, hl, hm⟩ := h
  have ha := str_of ha0; have hb := str_of hb0; have hsl := small_of hl; have hsm := small_of hm
  refine Ev.rounds (g := fun k => cartouchelaw03_TreeGives.f k n i a p b q l m) ?_
  unfold cartouchelaw03_TreeGives.f
  simp only [shown_f, Option.bind_some]
  have off : Ev (fun k => cartouchelaw03_TreeGives.j0 k n i a p b q l m true false) true := by
    refine Ev.step (f := fun _ => some true) (fun k => ?_) (Ev.now _)
    simp only [cartouchelaw03_TreeGives.j0, Bool.false_eq_true, if_false]
  refine Ev.bind (few_f l (len_of hl)) ?_
  cases hf : fewV l.length l with
  | false => simp only [Bool.false_eq_true, if_false]; exact off
  | true =>
    obtain ⟨l200, _⟩ := fewV_spec _ _ hf
    simp only [if_true]
    refine Ev.bind (few_f m (len_of hm)) ?_
    cases hg : fewV m.length m with
    | false => exact off
    | true =>
      obtain ⟨m200, _⟩ := fewV_spec _ _ hg
      have hD := differ_f l m l200 m200 hsl hsm
      refine Ev.step (f := fun k => (tree_Clash.f n i a p b q).bind fun bt392 => _) (fun k => by simp only [cartouchelaw03_TreeGives.j0, if_true]; rfl) ?_
      rw [clash_f n i a p b q ha hb]
      refine Ev.congr (fun k => Option.bind_some _ _) ?_
      refine Ev.bind (rclash_f n i a p b q ha hb (len_of hp) (len_of hq)) (Ev.bind hD.1 (Ev.bind hD.2 ?_))
      simp only [if_true, beq_self_eq_true]
      exact Ev.now _
end Go.Proofs.YtlcmpmodfkmfnaaDoor
