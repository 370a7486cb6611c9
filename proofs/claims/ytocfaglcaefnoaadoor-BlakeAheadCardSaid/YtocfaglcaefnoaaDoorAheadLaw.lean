/- The law BlakeAhead: the walk, whatever key. -/
import Derived.Test.YtocfaglcaefnoaaDoorAhead
set_option linter.unusedVariables false
set_option linter.unusedSimpArgs false
namespace Go.Proofs.YtocfaglcaefnoaaDoor
open Go.RowKit

set_option maxRecDepth 100000 in
set_option maxHeartbeats 2000000 in
theorem ahead_no (key s : ByteArray) (hk : key.size = 0 ∨ 32 < key.size) (w : World) (hT : Tabs w) :
    Calls Tryd.prog 10 #[.string key, .string s] w fun e w' => e = .returned (.bool true) ∧ Below w.heap.size w w' := by
  have HS := Lib.hid (fun u (hu : Tabs u) => shown_any u hu)
  have HA := Lib.hid (fun u => keyed_no key s hk u)
  obtain ⟨b0, b1, b2, b3, b4, b5, b6, b7, kb, hkb, hB0⟩ := start_8 (key.size : Int)
  have HB := Lib.hid hB0
  clear hB0
  go_enter Tryd.func10, Tryd.ntmps10
  go_wp2_with (go_at_call 11; refine Pause'.out ?_)
  constructor
  refine (HS.out _ hT).mono ?_
  rintro e u ⟨rfl, hB⟩
  go_wp2_with (go_at_call 20; refine Pause'.out ?_)
  constructor
  refine (HA.out _).mono ?_
  rintro e u2 ⟨rfl, rfl⟩
  go_wp2_with (go_at_call 12; refine Pause'.out ?_)
  constructor
  refine (HB.out _ (hT.below hB hT.size)).mono ?_
  rintro e u3 ⟨rfl, hb⟩
  replace hB := (hB.trans (hb.mono hB.size)).alloc (by have := hB.size; have := hb.size; omega) (.cells #[.int .u32 b0, .int .u32 b1, .int .u32 b2, .int .u32 b3, .int .u32 b4, .int .u32 b5, .int .u32 b6, .int .u32 b7] 24)
  clear hb HS HA HB
  rcases hk with hk | hk
  · have hk1 : (key.size : Int) < 1 := by omega
    go_wp2
    all_goals go_ret
    all_goals exact ⟨by first | rfl | (simp; done), hB⟩
  · have hk1 : ¬ (key.size : Int) < 1 := by omega
    have hk2 : (32 : Int) < (key.size : Int) := by omega
    go_wp2
    all_goals go_ret
    all_goals exact ⟨by first | rfl | (simp; done), hB⟩
theorem ahead_walk (key s : ByteArray) (_ : key.size ≤ 140737488351232) (hs : s.size ≤ 140737488351232) (w : World) (hT : Tabs w) :
    Calls Tryd.prog 10 #[.string key, .string s] w fun e w' => e = .returned (.bool true) ∧ Below w.heap.size w w' := by
  by_cases hk : key.size = 0 ∨ 32 < key.size
  · exact ahead_no key s hk w hT
  · exact ahead_ok key s (by omega) (by omega) hs w hT
end Go.Proofs.YtocfaglcaefnoaaDoor
