/- Chapter 04's examples, in plain Lean. -/
import Derived.Test.YtnigomohlgcojaaDoorChainP
import Derived.Test.YtnigomohlgcojaaDoorR2
set_option linter.unusedVariables false
set_option linter.unusedSimpArgs false
namespace Go.Proofs.YtnigomohlgcojaaDoor
open Go.RowKit Go.Proofs.YtnigomohlgcojaaDoor.Q Go.Proofs.YtnigomohlgcojaaDoorW.PrintWords

theorem nextR_ok {p b : ByteArray} (h : p.size ≤ 65535 ∧ b.size ≤ 65535) : nextR p b = (sumB (inB p b), 0) := by unfold nextR; rw [if_pos h]
theorem shown_f : R.cartouchelaw04_shown.f = some true := by
  unfold R.cartouchelaw04_shown.f
  rw [head_f [] (by decide), links_f _ (by decide)]
  have e1 : nextR ⟨#[]⟩ ⟨#[97]⟩ = (sumB (inB ⟨#[]⟩ ⟨#[97]⟩), 0) := nextR_ok (by decide)
  have e2 : nextR (sumB (inB ⟨#[]⟩ ⟨#[97]⟩)) ⟨#[98]⟩ = (sumB (inB (sumB (inB ⟨#[]⟩ ⟨#[97]⟩)) ⟨#[98]⟩), 0) := nextR_ok (by rw [sumB_size]; decide)
  have eH : (headR ⟨#[]⟩ [⟨#[97]⟩, ⟨#[98]⟩]).2 = 0 := by
    simp only [headR, e1, if_true, e2]
  have eL : linksR [⟨#[97]⟩, ⟨#[98]⟩] = ([⟨⟨#[]⟩, ⟨#[97]⟩⟩, ⟨sumB (inB ⟨#[]⟩ ⟨#[97]⟩), ⟨#[98]⟩⟩], 0) := by
    unfold linksR
    rw [if_pos eH]
    simp only [linksL, nextB_eq, e1]
  rw [eL]
  have r0 : rd_T40 ([⟨⟨#[]⟩, ⟨#[97]⟩⟩, ⟨sumB (inB ⟨#[]⟩ ⟨#[97]⟩), ⟨#[98]⟩⟩] : List Lk) 0 = ⟨⟨#[]⟩, ⟨#[97]⟩⟩ := rfl
  have r1 : rd_T40 ([⟨⟨#[]⟩, ⟨#[97]⟩⟩, ⟨sumB (inB ⟨#[]⟩ ⟨#[97]⟩), ⟨#[98]⟩⟩] : List Lk) 1 = ⟨sumB (inB ⟨#[]⟩ ⟨#[97]⟩), ⟨#[98]⟩⟩ := rfl
  simp only [Option.bind_some, headR, r0, r1, List.length_cons, List.length_nil, sumB_size]
  simp only [if_pos (show (⟨#[]⟩ : ByteArray).toList = [] from toList_nil.2 rfl), if_true]
  simp
end Go.Proofs.YtnigomohlgcojaaDoor
