/- The law BlakeKeys: the walk. -/
import Derived.Test.YtocfaglcaefnoaaDoorShown
import Derived.Test.YtocfaglcaefnoaaDoorRefSum
import Derived.Test.YtocfaglcaefnoaaDoorRefuses
set_option linter.unusedVariables false
set_option linter.unusedSimpArgs false
namespace Go.Proofs.YtocfaglcaefnoaaDoor
open Go.RowKit

/-- Keyed and the document's answer, alike. -/
theorem keys_2 (key s : ByteArray) (hs : s.size ≤ 140737488351232) : ∃ (o : ByteArray) (k : Int), (∀ w, Tabs w →
    Calls Tryd.prog 20 #[.string key, .string s] w fun e w' => e = .returned (.tuple #[.string o, .int .i64 k]) ∧ Below w.heap.size w w') ∧ ∀ w,
    Calls Tryd.prog 21 #[.string key, .string s] w fun e w' => e = .returned (.tuple #[.string o, .int .i64 k]) ∧ Below w.heap.size w w' := by
  by_cases hk : key.size = 0 ∨ 32 < key.size
  · exact ⟨.empty, 1, fun w hT => (keyed_no key s hk w).mono fun e w' ⟨he, hw⟩ => ⟨he, hw ▸ Below.refl _ _⟩, fun w => (rkeyed_no key s hk w).mono fun e w' ⟨he, hw⟩ => ⟨he, hw ▸ Below.refl _ _⟩⟩
  · exact ⟨keyedB key s, 0, fun w hT => keyed_ok key s (by omega) (by omega) hs w hT, fun w => rkeyed_ok key s (by omega) (by omega) hs w⟩

set_option maxHeartbeats 1000000 in
theorem keys_walk (key s : ByteArray) (_ : key.size ≤ 140737488351232) (hs : s.size ≤ 140737488351232) (w : World) (hT : Tabs w) :
    Calls Tryd.prog 9 #[.string key, .string s] w fun e w' => e = .returned (.bool true) ∧ Below w.heap.size w w' := by
  obtain ⟨o, k, hA, hB0⟩ := keys_2 key s hs
  have HS := Lib.hid (fun u (hu : Tabs u) => shown_any u hu)
  have HA := Lib.hid hA; have HB := Lib.hid hB0
  clear hA hB0
  go_enter Tryd.func9, Tryd.ntmps9
  go_wp2_with (go_at_call 11; refine Pause'.out ?_)
  constructor
  refine (HS.out _ hT).mono ?_
  rintro e u ⟨rfl, hB⟩
  go_wp2_with (go_at_call 20; refine Pause'.out ?_)
  constructor
  refine (HA.out _ (hT.below hB hT.size)).mono ?_
  rintro e u2 ⟨rfl, hb⟩
  replace hB := hB.trans (hb.mono hB.size)
  clear hb
  go_wp2_with (go_at_call 21; refine Pause'.out ?_)
  constructor
  refine (HB.out _).mono ?_
  rintro e u3 ⟨rfl, hb⟩
  replace hB := hB.trans (hb.mono hB.size)
  clear hb
  go_wp2
  all_goals go_ret
  all_goals exact ⟨by first | rfl | simp, hB⟩
end Go.Proofs.YtocfaglcaefnoaaDoor
