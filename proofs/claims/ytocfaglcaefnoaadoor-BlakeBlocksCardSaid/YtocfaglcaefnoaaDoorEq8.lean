/- '==' of an array of words with itself. -/
import Derived.Test.YtocfaglcaefnoaaDoorRow
import Derived.ChangeKeysEq
set_option linter.unusedVariables false
set_option linter.unusedSimpArgs false
namespace Go.Proofs.YtocfaglcaefnoaaDoor
open Go.RowKit

theorem eqItems_same {P : Program} (w : World) (d : Nat) (e : TypeId) (c : Nat) (k k' : IntKind) (xs : Array Value) (he : P.plainKey e = true) (hu : P.underlying e = some (.int k')) : ∀ is : List Nat, (∀ i ∈ is, ∃ z, xs[i * c]? = some (.int k z)) →
    (Op.eqItems (d + 1) e c xs xs is).run P w = .ok true w
  | [], _ => by simp [Op.eqItems]
  | i :: is, h => by
    obtain ⟨z, hz⟩ := h i (by simp)
    simp only [Op.eqItems, Sem.run_bind, run_part_plain (w := w) he hz, Result.andThen_ok, run_equalIn_int w d e k k' z z hu]
    simp only [beq_self_eq_true, Bool.not_true, Bool.false_eq_true, if_false]
    exact eqItems_same w d e c k k' xs he hu is (fun j hj => h j (by simp [hj]))
theorem eq8 (a0 a1 a2 a3 a4 a5 a6 a7 : Int) (w : World) :
    (Op.equalIn 10000 24 (.agg #[.int .u32 a0, .int .u32 a1, .int .u32 a2, .int .u32 a3, .int .u32 a4, .int .u32 a5, .int .u32 a6, .int .u32 a7]) (.agg #[.int .u32 a0, .int .u32 a1, .int .u32 a2, .int .u32 a3, .int .u32 a4, .int .u32 a5, .int .u32 a6, .int .u32 a7])).run Tryd.prog w = .ok true w := by
  obtain ⟨i, hi⟩ : ∃ i, Tryd.prog.info? 23 = some i := Option.isSome_iff_exists.1 (by kernel_rfl)
  have h1 := run_equalIn_array (P := Tryd.prog) (w := w) 9999 #[.int .u32 a0, .int .u32 a1, .int .u32 a2, .int .u32 a3, .int .u32 a4, .int .u32 a5, .int .u32 a6, .int .u32 a7] #[.int .u32 a0, .int .u32 a1, .int .u32 a2, .int .u32 a3, .int .u32 a4, .int .u32 a5, .int .u32 a6, .int .u32 a7] Tryd.underlying24 hi
  have hc : Tryd.prog.cellsOf 23 = 1 := by kernel_rfl
  rw [hc] at h1
  refine h1.trans (eqItems_same w 9998 23 1 .u32 .u32 _ (by kernel_rfl) Tryd.underlying23 _ ?_)
  intro j hj
  have hj8 : j < 8 := by simpa using hj
  rcases (show j = 0 ∨ j = 1 ∨ j = 2 ∨ j = 3 ∨ j = 4 ∨ j = 5 ∨ j = 6 ∨ j = 7 by omega) with rfl | rfl | rfl | rfl | rfl | rfl | rfl | rfl
  all_goals exact ⟨_, rfl⟩
end Go.Proofs.YtocfaglcaefnoaaDoor
