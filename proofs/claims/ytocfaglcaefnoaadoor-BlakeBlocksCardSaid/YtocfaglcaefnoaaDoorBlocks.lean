/- The law BlakeBlocks: the walk. -/
import Derived.Test.YtocfaglcaefnoaaDoorRefuses
import Derived.Test.YtocfaglcaefnoaaDoorRefBlock
import Derived.Test.YtocfaglcaefnoaaDoorEq8
set_option linter.unusedVariables false
set_option linter.unusedSimpArgs false
namespace Go.Proofs.YtocfaglcaefnoaaDoor
open Go.RowKit

set_option maxRecDepth 100000 in
set_option maxHeartbeats 1000000 in
theorem rblock_no (h : List Int) (s : ByteArray) (hs : ¬ s.size = 64) (t : Int) (last : Bool) (w : World) :
    Calls Tryd.prog 15 #[.agg (u32s h).toArray, .string s, .int .u64 t, .bool last] w fun e w' =>
      e = .returned (.tuple #[.agg zero8, .int .i64 1]) ∧ Below w.heap.size w w' := by
  have b1 : ((s.size : Int) != 64) = true := by rw [bne_iff_ne]; omega
  go_enter Tryd.func15, Tryd.ntmps15
  go_wp2
  refine bodyPost_ret (v := .tuple #[.agg zero8, .int .i64 1]) (by simp [results, Tryd.results15, go_sem]; rfl) rfl ⟨rfl, ?_⟩
  repeat (first | exact ((Below.refl _ _).alloc (Nat.le_refl _) _).alloc (by simp) _ | refine Below.setCell ?_ (by simp) _)

/-- Block and the document's answer, alike. -/
theorem blocks_8 (h : List Int) (hh : h.length = 8) (s : ByteArray) (t : Int) (ht : 0 ≤ t) (ht' : t < 18446744073709551616) (last : Bool) : ∃ a b c d e f g i k : Int, (∀ w, Tabs w →
    Calls Tryd.prog 14 #[.agg (u32s h).toArray, .string s, .int .u64 t, .bool last] w fun e' w' =>
      e' = .returned (.tuple #[.agg #[.int .u32 a, .int .u32 b, .int .u32 c, .int .u32 d, .int .u32 e, .int .u32 f, .int .u32 g, .int .u32 i], .int .i64 k]) ∧ Below w.heap.size w w') ∧ ∀ w,
    Calls Tryd.prog 15 #[.agg (u32s h).toArray, .string s, .int .u64 t, .bool last] w fun e' w' =>
      e' = .returned (.tuple #[.agg #[.int .u32 a, .int .u32 b, .int .u32 c, .int .u32 d, .int .u32 e, .int .u32 f, .int .u32 g, .int .u32 i], .int .i64 k]) ∧ Below w.heap.size w w' := by
  by_cases hs : s.size = 64
  · obtain ⟨a, b, c, d, e, f, g, i, h8⟩ := lit8 (blockL h s t last) (blockL_length _ _ _ _)
    refine ⟨a, b, c, d, e, f, g, i, 0, fun w hT => ?_, fun w => ?_⟩
    · rw [← h8]
      exact block_ok h hh s hs t last w hT
    · rw [← h8]
      exact rblock_ok h hh s hs t ht ht' last w
  · exact ⟨0, 0, 0, 0, 0, 0, 0, 0, 1, fun w hT => block_no h s hs t last w, fun w => rblock_no h s hs t last w⟩

set_option maxHeartbeats 2000000 in
theorem blocks_walk (h : List Int) (hh : h.length = 8) (s : ByteArray) (t : Int) (ht : 0 ≤ t) (ht' : t < 18446744073709551616) (last : Bool) (w : World) (hT : Tabs w) :
    Calls Tryd.prog 4 #[.agg (u32s h ++ [Value.string s, .int .u64 t, .bool last]).toArray] w fun e w' => e = .returned (.bool true) ∧ Below w.heap.size w w' := by
  obtain ⟨a0, a1, a2, a3, a4, a5, a6, a7, ka, hA, hB0⟩ := blocks_8 h hh s t ht ht' last
  obtain ⟨h0, h1, h2, h3, h4, h5, h6, h7, h8⟩ := lit8 h hh
  have ha : (u32s h ++ [Value.string s, .int .u64 t, .bool last]).toArray = #[.int .u32 h0, .int .u32 h1, .int .u32 h2, .int .u32 h3, .int .u32 h4, .int .u32 h5, .int .u32 h6, .int .u32 h7, .string s, .int .u64 t, .bool last] := by
    rw [← List.append_toArray, h8]
    rfl
  rw [ha]
  have HS := Lib.hid (fun u (hu : Tabs u) => shown_any u hu)
  have heq := eq8 a0 a1 a2 a3 a4 a5 a6 a7
  have HA := Lib.hid hA; have HB := Lib.hid hB0; have HL := Lib.hid hh; have HE := Lib.hid h8
  clear hA hB0 h8 hh ha ht ht'
  go_enter Tryd.func4, Tryd.ntmps4
  go_wp2_with (go_at_call 11; refine Pause'.out ?_)
  have hH := RowIs.new (w.alloc (.cells #[.int .u32 h0, .int .u32 h1, .int .u32 h2, .int .u32 h3, .int .u32 h4, .int .u32 h5, .int .u32 h6, .int .u32 h7, .string s, .int .u64 t, .bool last] 33)) 24 (u32s h)
  rw [World.size_alloc, HE.out] at hH
  have hB := ((Below.refl w.heap.size w).alloc (Nat.le_refl _) (.cells #[.int .u32 h0, .int .u32 h1, .int .u32 h2, .int .u32 h3, .int .u32 h4, .int .u32 h5, .int .u32 h6, .int .u32 h7, .string s, .int .u64 t, .bool last] 33)).alloc (by simp) (.cells (u32s h).toArray 24)
  rw [HE.out] at hB
  generalize World.alloc _ _ = W1 at *
  constructor
  refine (HS.out _ (hT.below hB hT.size)).mono ?_
  rintro e u ⟨rfl, hb⟩
  replace hH := hH.below hb
  replace hB := hB.trans (hb.mono hB.size)
  clear hb
  have hsz : (Tryd.prog.info? 24).map (·.size) = some (u32s h).toArray.size := by rw [size8, List.size_toArray, u32s_length, HL.out]
  go_wp2_with (first | (refine wpList_load_row rfl 24 (.tmp 3) rfl (w.heap.size + 1) rfl 24 (u32s h).toArray (0, 0) _ hH Tryd.underlying24 rfl hsz ?_) | (go_at_call 14; refine Pause'.out ?_))
  constructor
  refine (HA.out _ (hT.below hB hT.size)).mono ?_
  rintro e u2 ⟨rfl, hb⟩
  have hR : RowIs (u2.alloc (.cells (u32s [a0, a1, a2, a3, a4, a5, a6, a7]).toArray 24)) u2.heap.size 24 (u32s [a0, a1, a2, a3, a4, a5, a6, a7]) := RowIs.new _ _ _
  replace hH := (hH.below hb).alloc (.cells (u32s [a0, a1, a2, a3, a4, a5, a6, a7]).toArray 24)
  replace hB := hB.trans (hb.mono hB.size)
  replace hB := hB.alloc hB.size (.cells (u32s [a0, a1, a2, a3, a4, a5, a6, a7]).toArray 24)
  have e8 : (u32s [a0, a1, a2, a3, a4, a5, a6, a7]).toArray = #[.int .u32 a0, .int .u32 a1, .int .u32 a2, .int .u32 a3, .int .u32 a4, .int .u32 a5, .int .u32 a6, .int .u32 a7] := rfl
  rw [e8] at hR hB hH
  clear hb
  go_wp2_with (first | (refine wpList_load_row rfl 24 (.tmp 3) rfl (w.heap.size + 1) rfl 24 (u32s h).toArray (0, 0) _ hH Tryd.underlying24 rfl hsz ?_) | (go_at_call 15; refine Pause'.out ?_))
  clear hH
  generalize World.alloc _ _ = W2 at *
  generalize u2.heap.size = gA at *
  constructor
  refine (HB.out _).mono ?_
  rintro e u3 ⟨rfl, hb⟩
  replace hR := (hR.below hb).alloc (.cells (u32s [a0, a1, a2, a3, a4, a5, a6, a7]).toArray 24)
  replace hB := hB.trans (hb.mono hB.size)
  replace hB := hB.alloc hB.size (.cells (u32s [a0, a1, a2, a3, a4, a5, a6, a7]).toArray 24)
  have hQ : RowIs (u3.alloc (.cells (u32s [a0, a1, a2, a3, a4, a5, a6, a7]).toArray 24)) u3.heap.size 24 (u32s [a0, a1, a2, a3, a4, a5, a6, a7]) := RowIs.new _ _ _
  rw [e8] at hR hB hQ
  clear hb
  have y0 := hR.cell (i := 0) rfl; have z0 := hQ.cell (i := 0) rfl
  have y1 := hR.cell (i := 1) rfl; have z1 := hQ.cell (i := 1) rfl
  have y2 := hR.cell (i := 2) rfl; have z2 := hQ.cell (i := 2) rfl
  have y3 := hR.cell (i := 3) rfl; have z3 := hQ.cell (i := 3) rfl
  have y4 := hR.cell (i := 4) rfl; have z4 := hQ.cell (i := 4) rfl
  have y5 := hR.cell (i := 5) rfl; have z5 := hQ.cell (i := 5) rfl
  have y6 := hR.cell (i := 6) rfl; have z6 := hQ.cell (i := 6) rfl
  have y7 := hR.cell (i := 7) rfl; have z7 := hQ.cell (i := 7) rfl
  clear hR hQ e8
  go_wp2
  all_goals go_ret
  all_goals exact ⟨by first | rfl | simp, hB⟩
end Go.Proofs.YtocfaglcaefnoaaDoor
