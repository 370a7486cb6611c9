/- the document's example. -/
import Derived.Test.YtocfaglcaefnoaaDoorSum
import Derived.Test.YtocfaglcaefnoaaDoorHex
set_option linter.unusedVariables false
set_option linter.unusedSimpArgs false
namespace Go.Proofs.YtocfaglcaefnoaaDoor
open Go.RowKit

theorem shown_law : hexB (sumB ⟨#[97, 98, 99]⟩) = ⟨#[53, 48, 56, 99, 53, 101, 56, 99, 51, 50, 55, 99, 49, 52, 101, 50, 101, 49, 97, 55, 50, 98, 97, 51, 52, 101, 101, 98, 52, 53, 50, 102, 51, 55, 52, 53, 56, 98, 50, 48, 57, 101, 100, 54, 51, 97, 50, 57, 52, 100, 57, 57, 57, 98, 52, 99, 56, 54, 54, 55, 53, 57, 56, 50]⟩ := by
  have h : hexL (sumL ⟨#[97, 98, 99]⟩) = [53, 48, 56, 99, 53, 101, 56, 99, 51, 50, 55, 99, 49, 52, 101, 50, 101, 49, 97, 55, 50, 98, 97, 51, 52, 101, 101, 98, 52, 53, 50, 102, 51, 55, 52, 53, 56, 98, 50, 48, 57, 101, 100, 54, 51, 97, 50, 57, 52, 100, 57, 57, 57, 98, 52, 99, 56, 54, 54, 55, 53, 57, 56, 50] := by decide +kernel
  unfold hexB sumB
  rw [List.toList_toArray, h]
set_option maxHeartbeats 1000000 in
theorem shown_any (w : World) (hT : Tabs w) :
    Calls Tryd.prog 11 #[] w fun e w' => e = .returned (.bool true) ∧ Below w.heap.size w w' := by
  have h1 := sum_any ⟨#[97, 98, 99]⟩ (by decide) w hT
  have h2 := fun u => hex_any (sumB ⟨#[97, 98, 99]⟩) (by rw [sumB_size]; decide) u
  rw [shown_law] at h2
  generalize sumB _ = d at *
  have H1 := Lib.hid h1; have H2 := Lib.hid h2
  clear h1 h2
  go_enter Tryd.func11, Tryd.ntmps11
  go_wp2_with (go_at_call 16; refine H1.out.mono ?_)
  rintro e u rfl hb
  go_wp2_with (go_at_call 18; refine (H2.out _).mono ?_)
  rintro e u' ⟨rfl, hb2⟩
  have hb3 := hb.trans (hb2.mono hb.size)
  clear hb hb2
  go_wp2
  go_ret
  exact ⟨rfl, hb3⟩
end Go.Proofs.YtocfaglcaefnoaaDoor
