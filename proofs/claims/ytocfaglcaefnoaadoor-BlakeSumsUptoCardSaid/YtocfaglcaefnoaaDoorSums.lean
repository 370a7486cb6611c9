/- The law BlakeSums: the walk. -/
import Derived.Test.YtocfaglcaefnoaaDoorShown
import Derived.Test.YtocfaglcaefnoaaDoorRefSum
import Derived.Test.YtocfaglcaefnoaaDoorRefHex
set_option linter.unusedVariables false
set_option linter.unusedSimpArgs false
namespace Go.Proofs.YtocfaglcaefnoaaDoor
open Go.RowKit

set_option maxHeartbeats 1000000 in
theorem sums_walk (s : ByteArray) (hs : s.size ≤ 1048576) (w : World) (hT : Tabs w) :
    Calls Tryd.prog 5 #[.string s] w fun e w' => e = .returned (.bool true) ∧ Below w.heap.size w w' := by
  have HS := Lib.hid (fun u (hu : Tabs u) => shown_any u hu)
  have H1 := Lib.hid (fun u (hu : Tabs u) => sum_any s (by omega) u hu)
  have H2 := Lib.hid (fun u => rsum_any s (by omega) u)
  have H3 := Lib.hid (fun u => hex_any s (by omega) u)
  have H4 := Lib.hid (fun u => rhex_any s (by omega) u)
  go_enter Tryd.func5, Tryd.ntmps5
  go_wp2_with (go_at_call 11; refine Pause'.out ?_)
  constructor
  refine (HS.out _ hT).mono ?_
  rintro e u ⟨rfl, hB⟩
  go_wp2_with (go_at_call 16; refine Pause'.out ?_)
  constructor
  refine (H1.out _ (hT.below hB hT.size)).mono ?_
  rintro e u2 ⟨rfl, hb⟩
  replace hB := hB.trans (hb.mono hB.size)
  clear hb
  go_wp2_with (go_at_call 17; refine Pause'.out ?_)
  constructor
  refine (H2.out _).mono ?_
  rintro e u3 ⟨rfl, hb⟩
  replace hB := hB.trans (hb.mono hB.size)
  clear hb
  go_wp2_with (go_at_call 18; refine Pause'.out ?_)
  constructor
  refine (H3.out _).mono ?_
  rintro e u4 ⟨rfl, hb⟩
  replace hB := hB.trans (hb.mono hB.size)
  clear hb
  go_wp2_with (go_at_call 19; refine Pause'.out ?_)
  constructor
  refine (H4.out _).mono ?_
  rintro e u5 ⟨rfl, hb⟩
  replace hB := hB.trans (hb.mono hB.size)
  clear hb
  go_wp2
  all_goals go_ret
  all_goals exact ⟨by first | rfl | simp, hB⟩
end Go.Proofs.YtocfaglcaefnoaaDoor
