/- THE LAW RedactRows, IN PLAIN LEAN: its printed function says true. -/
import Derived.Test.YtbckobokiioeaaaDoorTwinsF
import Derived.Test.YtbckobokiioeaaaDoorRLRedactRows
set_option linter.unusedVariables false
set_option linter.unusedSimpArgs false
namespace Go.Proofs.YtbckobokiioeaaaDoor
open Go.RowKit Go.Proofs.YtbckobokiioeaaaDoor.Q Go.Proofs.YtbckobokiioeaaaDoor.R Go.Proofs.YtbckobokiioeaaaDoorW.PrintWords

theorem allL_length (seed : ByteArray) : ∀ (h acc : List Evt), (allL seed acc h).1.length ≤ acc.length + h.length
  | [], acc => by simp [allL]
  | x :: r, acc => by
    unfold allL
    by_cases hx : errE seed x = 0
    · rw [if_pos hx]
      have := allL_length seed r (acc ++ [oneE seed x])
      rw [List.length_append, List.length_singleton] at this
      rw [List.length_cons]
      omega
    · rw [if_neg hx]
      exact Nat.zero_le _
theorem allR_length (seed : ByteArray) (h : List Evt) : (allR seed h).1.length ≤ 256 := by
  unfold allR
  split
  · exact Nat.zero_le _
  · have := allL_length seed h []
    rw [List.length_nil] at this
    omega
theorem RedactRows_pure (seed : ByteArray) (h : List Evt) (_ : seed.size ≤ 140737488351232) (hh : h.length * 48 ≤ 140737488351232 ∧ ∀ x ∈ h, (Lit.int .i64 x.f0).wf = true ∧ (Lit.int .i64 x.f1).wf = true ∧ x.f2.size ≤ 140737488351232 ∧ x.f3.size ≤ 140737488351232) : ∃ k, cartouchelaw07_RedactRows.f k seed h = some true := by
  have hs : SmallE h := fun x hx => ⟨(hh.2 x hx).2.2.1, (hh.2 x hx).2.2.2⟩
  refine Ev.rounds (g := fun k => cartouchelaw07_RedactRows.f k seed h) ?_
  unfold cartouchelaw07_RedactRows.f
  simp only [shown_f, few_f, Option.bind_some]
  have hsame := same_f (allR seed h).1 (allR seed h).1 (by have := allR_length seed h; omega) rfl
  have ha := all_f seed h hs
  have hra := rall_f seed h hs
  by_cases hf : h.length ≤ 60
  · simp only [decide_eq_true hf, if_true]
    have ht : redact_Twins.f seed h = some (twinsR seed h) := by unfold redact_Twins.f; rw [if_pos ⟨hf, hs⟩]
    have hrt := rTwins_f seed h hs hf
    have hrs := rshape_f h (by omega)
    have hs2 := same_f (shapeB h) (shapeB h) (by rw [shapeB_length]; omega) rfl
    refine Ev.step (f := fun k => cartouchelaw07_RedactRows.j0 (k + 1) seed h true true false) (fun _ => rfl) ?_
    simp only [cartouchelaw07_RedactRows.j0, Bool.false_eq_true, if_false, if_true]
    refine Ev.bind ha (Ev.bind hra (Ev.bind hsame ?_))
    simp only [shape_f h (by omega) hs.max, Option.bind_some]
    refine Ev.bind hrs (Ev.bind hs2 ?_)
    simp only [ht, Option.bind_some]
    refine Ev.bind hrt ?_
    refine Ev.congr (f := fun _ => some true) (fun k => ?_) (Ev.now _)
    simp
  · simp only [decide_eq_false hf, Bool.false_eq_true, if_false]
    by_cases h2 : (h.length : Int) ≤ 256
    · simp only [decide_eq_true h2]
      refine Ev.step (f := fun _ => some true) (fun k => ?_) (Ev.now _)
      simp only [cartouchelaw07_RedactRows.j0, if_true]
    · simp only [decide_eq_false h2]
      refine Ev.step (f := fun k => cartouchelaw07_RedactRows.j0 (k + 1) seed h true false false) (fun _ => rfl) ?_
      simp only [cartouchelaw07_RedactRows.j0, Bool.false_eq_true, if_false, if_true]
      refine Ev.bind ha (Ev.bind hra (Ev.bind hsame ?_))
      refine Ev.congr (f := fun _ => some true) (fun k => ?_) (Ev.now _)
      simp
end Go.Proofs.YtbckobokiioeaaaDoor
