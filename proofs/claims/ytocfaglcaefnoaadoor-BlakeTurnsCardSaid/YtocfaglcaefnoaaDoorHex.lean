/- blake.Hex: two figures of each byte. -/
import Derived.Test.YtocfaglcaefnoaaDoorTold
set_option linter.unusedVariables false
set_option linter.unusedSimpArgs false
namespace Go.Proofs.YtocfaglcaefnoaaDoor
open Go.RowKit

def digs : ByteArray := ⟨#[48, 49, 50, 51, 52, 53, 54, 55, 56, 57, 97, 98, 99, 100, 101, 102]⟩
/-- A byte's two figures. -/
def hx (b : UInt8) : List UInt8 := [digs.data.getD (b.toNat / 16) 0, digs.data.getD (b.toNat % 16) 0]
def hexL (l : List UInt8) : List UInt8 := l.flatMap hx
def hexB (s : ByteArray) : ByteArray := ⟨(hexL s.data.toList).toArray⟩
theorem hexL_length (l : List UInt8) : (hexL l).length = 2 * l.length := by
  unfold hexL
  induction l with
  | nil => rfl
  | cons x r ih => simp only [List.flatMap_cons, List.length_append, ih, List.length_cons]; simp [hx]; omega
theorem hexB_size (s : ByteArray) : (hexB s).size = 2 * s.size := by
  show (hexL s.data.toList).toArray.size = 2 * s.data.size
  rw [List.size_toArray, hexL_length, Array.length_toList]
theorem hexL_step (s : ByteArray) (k : Nat) (hk : k < s.size) : hexL (s.data.toList.take (k + 1)) = hexL (s.data.toList.take k) ++ hx s[k] := by
  have hl : k < s.data.toList.length := by rw [Array.length_toList]; exact hk
  rw [List.take_succ_eq_append_getElem hl]
  unfold hexL
  rw [List.flatMap_append]
  simp
  rfl
theorem dig_at (n : Nat) (h : n < 16) : (⟨#[48, 49, 50, 51, 52, 53, 54, 55, 56, 57, 97, 98, 99, 100, 101, 102]⟩ : ByteArray)[n]'h = digs.data.getD n 0 := by
  have h2 : n < digs.data.size := h
  rw [Array.getD_eq_getD_getElem?, Array.getElem?_eq_getElem h2]
  rfl

set_option maxHeartbeats 1000000 in
theorem hex_any (s : ByteArray) (hs : s.size ≤ 70368744177664) (w : World) :
    Calls Tryd.prog 18 #[.string s] w fun e w' => e = .returned (.string (hexB s)) ∧ Below w.heap.size w w' := by
  go_enter Tryd.func18, Tryd.ntmps18
  go_wp2
  have hI : Lib.IsBuilder 65 5 w.heap.size w.heap.size (Lib.byteCells (hexL (s.data.toList.take 0))) (w.alloc (.cells #[.pointer none, .slice none 0 0] 65)) := Lib.fresh_isBuilder 65 5 w
  have hB := (Below.refl w.heap.size w).alloc (by simp) (.cells #[.pointer none, .slice none 0 0] 65)
  have hS : w.heap.size < (w.alloc (.cells #[.pointer none, .slice none 0 0] 65)).heap.size := by simp
  generalize World.alloc _ _ = W at *
  go_loopw [7] (fun c u => ∃ k : Nat, k ≤ s.size ∧ c = .int .i64 k ∧ Lib.IsBuilder 65 5 w.heap.size w.heap.size (Lib.byteCells (hexL (s.data.toList.take k))) u ∧ Below w.heap.size w u ∧ w.heap.size < u.heap.size) (fun c _ => s.size - (intOf c).toNat)
  case atStart => exact ⟨0, by omega, rfl, hI, hB, hS⟩
  case round =>
    clear hI hB hS
    obtain ⟨k, hk, rfl, hI, hB, hS⟩ := hrel
    by_cases hlt : k < s.size
    · have dk : decide ((k : Int) < s.size) = true := by simp; omega
      have hl := hexL_length (s.data.toList.take k)
      rw [List.length_take] at hl
      have hst := hexL_step s k hlt
      obtain ⟨c, hc⟩ : ∃ c, c = s[k] := ⟨_, rfl⟩
      have h256 : c.toNat < 256 := c.toNat_lt
      have b1 : 0 ≤ (s[k].toNat : Int) / 16 := by omega
      have b2 : (s[k].toNat : Int) / 16 < 16 := by rw [← hc]; omega
      have b3 : 0 ≤ (s[k].toNat : Int) % 16 := by omega
      have b4 : (s[k].toNat : Int) % 16 < 16 := by omega
      have HST := Lib.hid hst
      clear hst
      go_wp2_with (go_at_call 30; refine (writeByte _ _ _ _ _ hI (by rw [byteCells_length]; omega) (by omega)).mono ?_)
      rintro e u ⟨rfl, hI2, hB2⟩
      rw [← byteCells_snoc] at hI2
      have hS2 := Nat.lt_of_lt_of_le hS hB2.size
      clear hI
      go_wp2_with (go_at_call 30; refine (writeByte _ _ _ _ _ hI2 (by rw [byteCells_length, List.length_append]; simp only [List.length_cons, List.length_nil]; omega) (by omega)).mono ?_)
      rintro e u' ⟨rfl, hI3, hB3⟩
      rw [← byteCells_snoc, List.append_assoc] at hI3
      have hI4 : Lib.IsBuilder 65 5 w.heap.size w.heap.size (Lib.byteCells (hexL (s.data.toList.take (k + 1)))) u' := by
        rw [HST.out]
        unfold hx
        rw [← dig_at _ (by omega), ← dig_at _ (by omega)]
        exact hI3
      have hB4 := (hB.trans (hB2.mono (by omega))).trans (hB3.mono (by omega))
      have hS4 := Nat.lt_of_lt_of_le hS2 hB3.size
      clear hI2 hI3 hB hB2 hB3 hS hS2 HST
      go_wp2
      go_roundw
      case rel => exact ⟨k + 1, by omega, by go_num, hI4, hB4, hS4⟩
      case measure => first | (simp [intOf]; done) | (simp [intOf]; omega)
    · obtain rfl : k = s.size := by omega
      have hfull : hexL (s.data.toList.take s.size) = hexL s.data.toList := by
        rw [List.take_of_length_le (by rw [Array.length_toList]; exact Nat.le_refl _)]
      rw [hfull] at hI
      go_wp2_with (go_at_call 31; refine (Tryd.Builder_String_any _ _ _ _ hI (by omega)).mono ?_)
      rintro e u ⟨rfl, hB2⟩
      have hB3 := hB.trans (hB2.mono (by omega))
      clear hI hB hB2 hS
      go_wp2
      go_ret
      exact ⟨rfl, hB3⟩
end Go.Proofs.YtocfaglcaefnoaaDoor
