/- Readings opened: an array of integers; a struct is an aggregate. -/
import Derived.Test.YtocfaglcaefnoaaDoorFrame
set_option linter.unusedVariables false
set_option linter.unusedSimpArgs false
namespace Go.Proofs.YtocfaglcaefnoaaDoor
open Go.ChangeShapes Go.WideShapes Go.ChangeAt Go.RowKit

theorem cells_ints {k : IntKind} : ∀ {cs : List Value}, (∀ i, i < cs.length → ∃ z, cs[i]? = some (.int k z) ∧ (Lit.int k z).wf = true) → ∃ zs : List Int, cs = zs.map (fun z => Value.int k z) ∧ ∀ z ∈ zs, (Lit.int k z).wf = true
  | [], _ => ⟨[], rfl, by simp⟩
  | c :: cs, h => by
    obtain ⟨z, hz, hw⟩ := h 0 (by simp)
    obtain ⟨zs, rfl, hzs⟩ := cells_ints (cs := cs) fun i hi => by
      have := h (i + 1) (by simpa using hi)
      simpa using this
    obtain rfl : c = .int k z := by simpa using hz
    refine ⟨z :: zs, rfl, ?_⟩
    intro y hy
    rcases List.mem_cons.1 hy with rfl | hy
    · exact hw
    · exact hzs y hy
theorem ints_open {H : Type} {enc : TypeId × Value → H} {P : Program} {w : World} {base : Nat} {sp : Nat → Bool} {held : Bool} {fuel : Nat} {t e : TypeId} {n : Nat} {k : IntKind} {cs : List Value} {x : DataW H × List MemPlace}
    (ht : P.underlying t = some (.array n e)) (he : P.underlying e = some (.int k)) (hce : P.cellsOf e = 1) (hct : P.cellsOf t = n) (h : DataW.trod enc P w base sp held fuel t cs = some x) :
    ∃ zs : List Int, zs.length = n ∧ cs = zs.map (fun z => Value.int k z) ∧ ∀ z ∈ zs, (Lit.int k z).wf = true := by
  obtain ⟨xs, m, rfl, _, hl, hn, hf⟩ := DataW.trod_array ht h
  rw [hct] at hl
  obtain ⟨zs, rfl, hz⟩ := cells_ints (k := k) (cs := cs) fun i hi => by
    have h1 := hf i (by omega)
    rw [List.getElem?_eq_getElem (by omega : i < xs.length)] at h1
    obtain ⟨z, hc, _, hw⟩ := DataW.trod_int he h1
    rw [hce, Nat.mul_one] at hc
    refine ⟨z, ?_, hw⟩
    have := congrArg (·[0]?) hc
    simpa [List.getElem?_take, List.getElem?_drop] using this
  exact ⟨zs, by simpa using hl, rfl, hz⟩
theorem agg_of {P : Program} {W : World} {r : Reach} {base : Nat} {t : TypeId} {v : Value} {fs : Array Field} (ht : P.underlying t = some (.struct fs)) (h : Value.okWide P W r base t v) : ∃ cs, v = .agg cs := by
  unfold Value.okWide at h
  rw [ht] at h
  obtain ⟨cs, rfl, _⟩ := h
  exact ⟨cs, rfl⟩
end Go.Proofs.YtocfaglcaefnoaaDoor
