/- The law BlakeHex: the walk. -/
import Derived.Test.YtocfaglcaefnoaaDoorShown
import Derived.Test.YtocfaglcaefnoaaDoorHex
set_option linter.unusedVariables false
set_option linter.unusedSimpArgs false
namespace Go.Proofs.YtocfaglcaefnoaaDoor
open Go.RowKit

theorem hx_inj : ∀ a b : Fin 256, hx (UInt8.ofNat a.val) = hx (UInt8.ofNat b.val) → a = b := by decide +kernel
theorem hx_inj' (a b : UInt8) (h : hx a = hx b) : a = b := by
  have h1 := hx_inj ⟨a.toNat, a.toNat_lt⟩ ⟨b.toNat, b.toNat_lt⟩ (by simpa using h)
  have h2 : a.toNat = b.toNat := congrArg Fin.val h1
  exact UInt8.toNat_inj.1 h2
theorem hexL_inj : ∀ a b : List UInt8, hexL a = hexL b → a = b
  | [], [], _ => rfl
  | [], y :: b, h => by have := congrArg List.length h; rw [hexL_length, hexL_length] at this; simp at this
  | x :: a, [], h => by have := congrArg List.length h; rw [hexL_length, hexL_length] at this; simp at this
  | x :: a, y :: b, h => by
    have h1 : hx x ++ hexL a = hx y ++ hexL b := h
    obtain ⟨h2, h3⟩ := List.append_inj h1 rfl
    rw [hx_inj' x y h2, hexL_inj a b h3]
theorem hexB_inj (a b : ByteArray) : (hexB a = hexB b) ↔ a = b := by
  constructor
  · intro h
    have h1 : (hexL a.data.toList).toArray = (hexL b.data.toList).toArray := congrArg ByteArray.data h
    have h2 := hexL_inj _ _ (by simpa using h1)
    exact ByteArray.ext (Array.ext' h2)
  · rintro rfl
    rfl
theorem toList_inj (a b : ByteArray) : a.toList = b.toList ↔ a = b := by
  rw [Lib.toList_data, Lib.toList_data]
  constructor
  · intro h
    exact ByteArray.ext (Array.ext' h)
  · rintro rfl
    rfl

set_option maxHeartbeats 1000000 in
theorem hex_walk (a b : ByteArray) (ha : a.size ≤ 1048576) (hb0 : b.size ≤ 1048576) (w : World) (hT : Tabs w) :
    Calls Tryd.prog 7 #[.string a, .string b] w fun e w' => e = .returned (.bool true) ∧ Below w.heap.size w w' := by
  have HS := Lib.hid (fun u (hu : Tabs u) => shown_any u hu)
  have H1 := Lib.hid (fun u => hex_any a (by omega) u)
  have H2 := Lib.hid (fun u => hex_any b (by omega) u)
  have hsz := hexB_size a
  have hab := hexB_inj a b
  go_enter Tryd.func7, Tryd.ntmps7
  go_wp2_with (go_at_call 11; refine Pause'.out ?_)
  constructor
  refine (HS.out _ hT).mono ?_
  rintro e u ⟨rfl, hB⟩
  go_wp2_with (go_at_call 18; refine Pause'.out ?_)
  constructor
  refine (H1.out _).mono ?_
  rintro e u2 ⟨rfl, hb⟩
  replace hB := hB.trans (hb.mono hB.size)
  clear hb
  go_wp2_with (go_at_call 18; refine Pause'.out ?_)
  constructor
  refine (H2.out _).mono ?_
  rintro e u3 ⟨rfl, hb⟩
  replace hB := hB.trans (hb.mono hB.size)
  clear hb
  clear H1 H2 HS
  generalize hexB a = x at *
  generalize hexB b = y at *
  have l2 : (x.size : Int) = 2 * (a.size : Int) := by omega
  have q1 : (x.toList == y.toList) = (a.toList == b.toList) := by
    rw [Bool.eq_iff_iff, beq_iff_eq, beq_iff_eq, toList_inj, toList_inj]
    exact hab
  clear hab hsz
  go_wp2
  all_goals go_ret
  all_goals exact ⟨by first | rfl | simp, hB⟩
end Go.Proofs.YtocfaglcaefnoaaDoor
