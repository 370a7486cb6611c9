/- The law BlakeAhead: the walk. -/
import Derived.Test.YtocfaglcaefnoaaDoorRefuses
set_option linter.unusedVariables false
set_option linter.unusedSimpArgs false
namespace Go.Proofs.YtocfaglcaefnoaaDoor
open Go.RowKit

/-- r, and k noughts. -/
def zeroB (r : ByteArray) (k : Nat) : ByteArray := ⟨(r.data.toList ++ List.replicate k 0).toArray⟩
theorem zeroB_size (r : ByteArray) (k : Nat) : (zeroB r k).size = r.size + k := by
  show (r.data.toList ++ List.replicate k 0).toArray.size = _
  simp
theorem zeroB_zero (r : ByteArray) : zeroB r 0 = r := by
  unfold zeroB
  apply ByteArray.ext
  simp
theorem zeroB_next (r : ByteArray) (k : Nat) : zeroB r k ++ ⟨#[0]⟩ = zeroB r (k + 1) := by
  unfold zeroB
  apply ByteArray.ext
  rw [List.replicate_succ']
  simp
theorem zeroB_pad (r : ByteArray) : zeroB r (64 - r.size) = padB r := by
  have hr : ∀ n, Lib.repeatL [(0 : UInt8)] n = List.replicate n 0 := by
    intro n
    induction n with
    | zero => rfl
    | succ n ih => simp [Lib.repeatL, ih, List.replicate_succ]
  unfold zeroB padB
  rw [hr]
  apply ByteArray.ext
  simp
/-- The words behind all blocks are in range. -/
theorem xr_bounds (x y : Int) : 0 ≤ xr x y ∧ xr x y < 4294967296 := by
  have e : xr x y = ((BitVec.ofInt 32 x ^^^ BitVec.ofInt 32 y).toNat : Int) % 4294967296 := by
    show IntKind.u32.wrap _ = _
    rw [IntKind.wrap_u32]
    rfl
  rw [e]
  omega
theorem blockL_bounds (h : List Int) (s : ByteArray) (t : Int) (last : Bool) : ∀ i, i < 8 → 0 ≤ (blockL h s t last).getD i 0 ∧ (blockL h s t last).getD i 0 < 4294967296 := by
  intro i hi
  unfold blockL
  rw [List.getD_eq_getElem?_getD, List.getElem?_map, List.getElem?_range hi]
  exact xr_bounds _ _
theorem feedL_bounds : ∀ (f : Nat) (h : List Int) (s : ByteArray) (t : Int), s.size < f → ∀ i, i < 8 → 0 ≤ (feedL f h s t).getD i 0 ∧ (feedL f h s t).getD i 0 < 4294967296
  | 0, _, _, _, hf => by omega
  | f + 1, h, s, t, hf => by
    unfold feedL
    split
    · exact feedL_bounds f _ _ _ (by rw [ByteArray.size_extract]; omega)
    · exact blockL_bounds _ _ _ _
theorem toldL_at : ∀ (F : List Int) (i j : Nat), i < F.length → j < 4 → (toldL F).getD (4 * i + j) 0 = (wb (F.getD i 0)).getD j 0
  | [], i, j, hi, _ => by simp at hi
  | x :: r, 0, j, _, hj => by
    show (wb x ++ toldL r).getD (4 * 0 + j) 0 = _
    rw [List.getD_eq_getElem?_getD, List.getElem?_append_left (by simp [wb]; omega), ← List.getD_eq_getElem?_getD, Nat.mul_zero, Nat.zero_add]
    rfl
  | x :: r, i + 1, j, hi, hj => by
    show (wb x ++ toldL r).getD (4 * (i + 1) + j) 0 = _
    rw [List.getD_eq_getElem?_getD, List.getElem?_append_right (by simp [wb]; omega), ← List.getD_eq_getElem?_getD]
    have e : 4 * (i + 1) + j - (wb x).length = 4 * i + j := by simp [wb]; omega
    rw [e, toldL_at r i j (by simpa using hi) hj]
    rfl
theorem byteAt' (F : ByteArray) (i : Nat) (h : i < F.size) : F[i]'h = F.data.getD i 0 := by
  have h2 : i < F.data.size := h
  rw [Array.getD_eq_getD_getElem?, Array.getElem?_eq_getElem h2]
  rfl
/-- A word of a sum. -/
theorem word_back (F : List Int) (hF : F.length = 8) (hr : ∀ i, i < 8 → 0 ≤ F.getD i 0 ∧ F.getD i 0 < 4294967296) (i : Nat) (hi : i < 8) :
    ((toldL F).getD (4 * i) 0).toNat + 256 * ((toldL F).getD (4 * i + 1) 0).toNat + 65536 * ((toldL F).getD (4 * i + 2) 0).toNat + 16777216 * ((toldL F).getD (4 * i + 3) 0).toNat = (F.getD i 0 : Int) := by
  have h0 := toldL_at F i 0 (by omega) (by omega)
  have h1 := toldL_at F i 1 (by omega) (by omega)
  have h2 := toldL_at F i 2 (by omega) (by omega)
  have h3 := toldL_at F i 3 (by omega) (by omega)
  rw [Nat.add_zero] at h0
  rw [h0, h1, h2, h3]
  have hx := hr i hi
  generalize F.getD i 0 = x at *
  show ((u8of x).toNat : Int) + 256 * ((u8of (x / 256)).toNat : Int) + 65536 * ((u8of (x / 65536)).toNat : Int) + 16777216 * ((u8of (x / 16777216)).toNat : Int) = x
  rw [u8of_toNat, u8of_toNat, u8of_toNat, u8of_toNat]
  omega
end Go.Proofs.YtocfaglcaefnoaaDoor
