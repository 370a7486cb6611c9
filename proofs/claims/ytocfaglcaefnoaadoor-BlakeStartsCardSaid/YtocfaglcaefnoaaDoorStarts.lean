/- The law BlakeStarts: the walk. -/
import Derived.Test.YtocfaglcaefnoaaDoorRefuses
import Derived.Test.YtocfaglcaefnoaaDoorRefStart
import Derived.Test.YtocfaglcaefnoaaDoorEq8
set_option linter.unusedVariables false
set_option linter.unusedSimpArgs false
namespace Go.Proofs.YtocfaglcaefnoaaDoor
open Go.RowKit

/-- Start and the document's answer, alike. -/
theorem starts_8 (key : Int) : ∃ a b c d e f g i k : Int, (∀ w, Tabs w →
    Calls Tryd.prog 12 #[.int .i64 key] w fun e' w' =>
      e' = .returned (.tuple #[.agg #[.int .u32 a, .int .u32 b, .int .u32 c, .int .u32 d, .int .u32 e, .int .u32 f, .int .u32 g, .int .u32 i], .int .i64 k]) ∧ Below w.heap.size w w') ∧ ∀ w,
    Calls Tryd.prog 13 #[.int .i64 key] w fun e' w' =>
      e' = .returned (.tuple #[.agg #[.int .u32 a, .int .u32 b, .int .u32 c, .int .u32 d, .int .u32 e, .int .u32 f, .int .u32 g, .int .u32 i], .int .i64 k]) ∧ Below w.heap.size w w' := by
  by_cases hk : 0 ≤ key ∧ key ≤ 32
  · obtain ⟨a, b, c, d, e, f, g, i, h8⟩ := lit8 (startL key) (startL_length _)
    refine ⟨a, b, c, d, e, f, g, i, 0, fun w hT => ?_, fun w => ?_⟩
    · rw [← h8]
      exact start_ok key hk.1 hk.2 w hT
    · rw [← h8]
      exact rstart_ok key hk.1 hk.2 w
  · exact ⟨0, 0, 0, 0, 0, 0, 0, 0, 1, fun w hT => start_no key (by omega) w, fun w => rstart_no key (by omega) w⟩

set_option maxHeartbeats 1000000 in
theorem starts_walk (key : Int) (w : World) (hT : Tabs w) :
    Calls Tryd.prog 3 #[.int .i64 key] w fun e w' => e = .returned (.bool true) ∧ Below w.heap.size w w' := by
  obtain ⟨a0, a1, a2, a3, a4, a5, a6, a7, ka, hA, hB0⟩ := starts_8 key
  have HS := Lib.hid (fun u (hu : Tabs u) => shown_any u hu)
  have heq := eq8 a0 a1 a2 a3 a4 a5 a6 a7
  have HA := Lib.hid hA; have HB := Lib.hid hB0
  clear hA hB0
  go_enter Tryd.func3, Tryd.ntmps3
  go_wp2_with (go_at_call 11; refine Pause'.out ?_)
  constructor
  refine (HS.out _ hT).mono ?_
  rintro e u ⟨rfl, hB⟩
  go_wp2_with (go_at_call 12; refine Pause'.out ?_)
  constructor
  refine (HA.out _ (hT.below hB hT.size)).mono ?_
  rintro e u2 ⟨rfl, hb⟩
  have hR : RowIs (u2.alloc (.cells (u32s [a0, a1, a2, a3, a4, a5, a6, a7]).toArray 24)) u2.heap.size 24 (u32s [a0, a1, a2, a3, a4, a5, a6, a7]) := RowIs.new _ _ _
  replace hB := hB.trans (hb.mono hB.size)
  replace hB := hB.alloc hB.size (.cells (u32s [a0, a1, a2, a3, a4, a5, a6, a7]).toArray 24)
  have e8 : (u32s [a0, a1, a2, a3, a4, a5, a6, a7]).toArray = #[.int .u32 a0, .int .u32 a1, .int .u32 a2, .int .u32 a3, .int .u32 a4, .int .u32 a5, .int .u32 a6, .int .u32 a7] := rfl
  rw [e8] at hR hB
  clear hb
  go_wp2_with (go_at_call 13; refine Pause'.out ?_)
  generalize World.alloc _ _ = W2 at *
  generalize u2.heap.size = gA at *
  constructor
  refine (HB.out _).mono ?_
  rintro e u3 ⟨rfl, hb⟩
  replace hR := (hR.below hb).alloc (.cells (u32s [a0, a1, a2, a3, a4, a5, a6, a7]).toArray 24)
  replace hB := hB.trans (hb.mono hB.size)
  replace hB := hB.alloc hB.size (.cells (u32s [a0, a1, a2, a3, a4, a5, a6, a7]).toArray 24)
  have hQ : RowIs (u3.alloc (.cells (u32s [a0, a1, a2, a3, a4, a5, a6, a7]).toArray 24)) u3.heap.size 24 (u32s [a0, a1, a2, a3, a4, a5, a6, a7]) := RowIs.new _ _ _
  rw [e8] at hR hB hQ
  clear hb
  have y0 := hR.cell (i := 0) rfl; have z0 := hQ.cell (i := 0) rfl
  have y1 := hR.cell (i := 1) rfl; have z1 := hQ.cell (i := 1) rfl
  have y2 := hR.cell (i := 2) rfl; have z2 := hQ.cell (i := 2) rfl
  have y3 := hR.cell (i := 3) rfl; have z3 := hQ.cell (i := 3) rfl
  have y4 := hR.cell (i := 4) rfl; have z4 := hQ.cell (i := 4) rfl
  have y5 := hR.cell (i := 5) rfl; have z5 := hQ.cell (i := 5) rfl
  have y6 := hR.cell (i := 6) rfl; have z6 := hQ.cell (i := 6) rfl
  have y7 := hR.cell (i := 7) rfl; have z7 := hQ.cell (i := 7) rfl
  clear hR hQ e8
  go_wp2
  all_goals go_ret
  all_goals exact ⟨by first | rfl | simp, hB⟩
end Go.Proofs.YtocfaglcaefnoaaDoor
