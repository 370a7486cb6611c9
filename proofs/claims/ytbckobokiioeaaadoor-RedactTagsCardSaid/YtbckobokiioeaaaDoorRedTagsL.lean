/- THE LAW RedactTags, IN PLAIN LEAN: its printed function says true. -/
import Derived.Test.YtbckobokiioeaaaDoorRedL
import Derived.Test.YtbckobokiioeaaaDoorRLRedactTags
set_option linter.unusedVariables false
set_option linter.unusedSimpArgs false
namespace Go.Proofs.YtbckobokiioeaaaDoor
open Go.RowKit Go.Proofs.YtbckobokiioeaaaDoor.Q Go.Proofs.YtbckobokiioeaaaDoor.R Go.Proofs.YtbckobokiioeaaaDoorW.PrintWords

theorem RedactTags_pure (seed key val : ByteArray) (a b : Int) (s t : ByteArray) (_ : seed.size ≤ 140737488351232 ∧ key.size ≤ 140737488351232 ∧ val.size ≤ 140737488351232 ∧ (Lit.int .i64 a).wf = true ∧ (Lit.int .i64 b).wf = true ∧ s.size ≤ 140737488351232 ∧ t.size ≤ 140737488351232) : ∃ k, cartouchelaw07_RedactTags.f k seed key val a b s t = some true := by
  rename_i h
  obtain ⟨_, hk, hv, _, _, hs, ht⟩ := h
  refine Ev.rounds (g := fun k => cartouchelaw07_RedactTags.f k seed key val a b s t) ?_
  unfold cartouchelaw07_RedactTags.f
  simp only [shown_f, key_f seed key hk, rkey_f seed key hk, val_f seed val hv, rval_f seed val hv, Option.bind_some]
  refine Ev.bind (one_f seed a b s t hs ht) ?_
  refine Ev.bind (rone_f seed a b s t hs ht) ?_
  refine Ev.congr (f := fun _ => some true) (fun k => ?_) (Ev.now _)
  simp
end Go.Proofs.YtbckobokiioeaaaDoor
