/- THE LAW RedactHides, IN PLAIN LEAN: its printed function says true. -/
import Derived.Test.YtbckobokiioeaaaDoorRedL
import Derived.Test.YtbckobokiioeaaaDoorRLRedactHides
set_option linter.unusedVariables false
set_option linter.unusedSimpArgs false
namespace Go.Proofs.YtbckobokiioeaaaDoor
open Go.RowKit Go.Proofs.YtbckobokiioeaaaDoor.Q Go.Proofs.YtbckobokiioeaaaDoor.R Go.Proofs.YtbckobokiioeaaaDoorW.PrintWords

theorem RedactHides_pure (seed : ByteArray) (a b : Int) (s t : ByteArray) (_ : seed.size ≤ 140737488351232) (h : (Lit.int .i64 a).wf = true ∧ (Lit.int .i64 b).wf = true ∧ s.size ≤ 140737488351232 ∧ t.size ≤ 140737488351232) : ∃ k, cartouchelaw07_RedactHides.f k seed a b s t = some true := by
  obtain ⟨_, _, hs, ht⟩ := h
  refine Ev.rounds (g := fun k => cartouchelaw07_RedactHides.f k seed a b s t) ?_
  unfold cartouchelaw07_RedactHides.f
  simp only [shown_f, Option.bind_some]
  refine Ev.bind (one_f seed a b s t hs ht) ?_
  refine Ev.bind (rmay_f a b s t) ?_
  by_cases hb : badK seed
  · rw [oneR_no (fun h => h.1 hb)]
    refine Ev.congr (f := fun _ => some true) (fun k => ?_) (Ev.now _)
    simp only [if_neg (show ¬ (1 : Int) = 0 by decide), if_true]
    by_cases hm : mayP a b s t
    · rw [decide_eq_true hm, if_pos rfl]
      rcases hb with hb | hb
      · rw [if_pos (by omega)]
      · rw [if_neg (by omega), decide_eq_true (by omega)]
    · rw [decide_eq_false hm, if_neg (by decide)]
  by_cases hm : mayP a b s t
  · by_cases hk : keyedE a
    · rw [oneR_K hb hm hk]
      simp only [if_true, bne_self_eq_false]
      refine Ev.step (f := fun _ => some true) (fun k => ?_) (Ev.now _)
      have hkt : (keyT seed s).size = 32 := keyedB_size _ _
      have e1 : (((valT seed t).size : Int) == 32) = (t.toList != ([] : List UInt8)) := by
        rw [bne_nil]
        unfold valT
        by_cases h0 : t = ⟨#[]⟩
        · rw [if_pos h0, decide_eq_false (fun h => h h0)]; decide
        · rw [if_neg h0, decide_eq_true h0, keyedB_size]; decide
      have e2 : (((valT seed t).size : Int) == 0) = (t.toList == ([] : List UInt8)) := by
        rw [beq_nil]
        unfold valT
        by_cases h0 : t = ⟨#[]⟩
        · rw [if_pos h0, decide_eq_true h0]; decide
        · rw [if_neg h0, decide_eq_false h0, keyedB_size]; decide
      simp only [cartouchelaw07_RedactHides.j0, Bool.false_eq_true, if_false, if_true, hkt, e1, e2, beq_self_eq_true]
      rcases hk with rfl | rfl
      · simp
      · simp
    · rw [oneR_N hb hm hk]
      simp only [if_true, bne_self_eq_false]
      refine Ev.step (f := fun _ => some true) (fun k => ?_) (Ev.now _)
      simp only [cartouchelaw07_RedactHides.j0, Bool.false_eq_true, if_false, if_true]
      rw [if_neg (fun h => hk (.inl h)), if_neg (fun h => hk (.inr h))]
      simp
  · rw [oneR_no (fun h => hm h.2)]
    refine Ev.congr (f := fun _ => some true) (fun k => ?_) (Ev.now _)
    simp only [if_neg (show ¬ (1 : Int) = 0 by decide), if_true]
    rw [decide_eq_false hm, if_neg (by decide)]
end Go.Proofs.YtbckobokiioeaaaDoor
