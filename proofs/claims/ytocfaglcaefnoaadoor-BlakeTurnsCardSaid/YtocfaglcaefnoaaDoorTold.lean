/- blake.told: the words' bytes, the lowest first. -/
import Derived.Test.YtocfaglcaefnoaaDoorBuilder
import Derived.Test.YtocfaglcaefnoaaDoorStart
set_option linter.unusedVariables false
set_option linter.unusedSimpArgs false
namespace Go.Proofs.YtocfaglcaefnoaaDoor
open Go.RowKit

/-- A number's lowest byte. -/
def u8of (z : Int) : UInt8 := UInt8.ofNat (z % 256).toNat
theorem u8of_toNat (z : Int) : ((u8of z).toNat : Int) = z % 256 := by
  unfold u8of
  have h0 : 0 ≤ z % 256 := by omega
  have h1 : z % 256 < 256 := by omega
  rw [UInt8.toNat_ofNat']
  omega
/-- A word's bytes. -/
def wb (x : Int) : List UInt8 := [u8of x, u8of (x / 256), u8of (x / 65536), u8of (x / 16777216)]
/-- All words' bytes. -/
def toldL (h : List Int) : List UInt8 := h.flatMap wb
/-- k words' bytes, and n bytes of the next one. -/
def toldP (h : List Int) (k n : Nat) : List UInt8 := (h.take k).flatMap wb ++ (wb (h.getD k 0)).take n
theorem toldP_word (h : List Int) (hh : h.length = 8) (k : Nat) (hk : k < 8) : toldP h k 4 = toldP h (k + 1) 0 := by
  unfold toldP
  rw [List.take_succ_eq_append_getElem (by omega : k < h.length), List.flatMap_append, List.getD_eq_getElem?_getD, List.getElem?_eq_getElem (by omega : k < h.length)]
  simp [wb]
theorem toldP_all (h : List Int) (hh : h.length = 8) : toldP h 8 0 = toldL h := by
  unfold toldP toldL
  rw [List.take_of_length_le (by omega)]
  simp
theorem toldL_length (h : List Int) : (toldL h).length = 4 * h.length := by
  unfold toldL
  induction h with
  | nil => rfl
  | cons x r ih => simp only [List.flatMap_cons, List.length_append, ih, List.length_cons]; simp [wb]; omega
theorem toldP_length (h : List Int) (k n : Nat) (hn : n ≤ 4) : (toldP h k n).length ≤ 4 * h.length + 4 := by
  unfold toldP
  have h1 := toldL_length (h.take k)
  unfold toldL at h1
  rw [List.length_append, h1, List.length_take, List.length_take]
  omega
theorem byteCells_snoc (l : List UInt8) (c : UInt8) : Lib.byteCells (l ++ [c]) = Lib.byteCells l ++ [.int .u8 c.toNat] := by simp [Lib.byteCells]
theorem byteCells_length (l : List UInt8) : (Lib.byteCells l).length = l.length := by simp [Lib.byteCells]

theorem idx8 (a0 a1 a2 a3 a4 a5 a6 a7 : Int) (k : Nat) (hk : k < 8) (w : World) :
    (Instr.index 24 (.agg #[.int .u32 a0, .int .u32 a1, .int .u32 a2, .int .u32 a3, .int .u32 a4, .int .u32 a5, .int .u32 a6, .int .u32 a7]) (.int .i64 k)).run Tryd.prog w = .ok (.int .u32 ([a0, a1, a2, a3, a4, a5, a6, a7].getD k 0)) w := by
  rcases (show k = 0 ∨ k = 1 ∨ k = 2 ∨ k = 3 ∨ k = 4 ∨ k = 5 ∨ k = 6 ∨ k = 7 by omega) with rfl | rfl | rfl | rfl | rfl | rfl | rfl | rfl <;> kernel_rfl

set_option maxHeartbeats 1000000 in
theorem told_any (h : List Int) (hh : h.length = 8) (w : World) :
    Calls Tryd.prog 36 #[.agg (u32s h).toArray] w fun e w' => e = .returned (.string ⟨(toldL h).toArray⟩) ∧ Below w.heap.size w w' := by
  have HH := Lib.hid hh
  obtain ⟨a0, a1, a2, a3, a4, a5, a6, a7, h8⟩ := list8 h hh
  have hidx := fun (k : Nat) (hk : k < 8) (w : World) => idx8 a0 a1 a2 a3 a4 a5 a6 a7 k hk w
  rw [← h8] at hidx
  have he : (u32s h).toArray = #[.int .u32 a0, .int .u32 a1, .int .u32 a2, .int .u32 a3, .int .u32 a4, .int .u32 a5, .int .u32 a6, .int .u32 a7] := by rw [h8]; rfl
  rw [he]
  have HI := Lib.hid hidx
  clear hh h8 he hidx
  go_enter Tryd.func36, Tryd.ntmps36
  go_wp2
  have hI : Lib.IsBuilder 65 5 (w.heap.size + 1) (w.heap.size + 1) (Lib.byteCells (toldP h 0 0)) ((w.alloc (.cells #[.int .u32 a0, .int .u32 a1, .int .u32 a2, .int .u32 a3, .int .u32 a4, .int .u32 a5, .int .u32 a6, .int .u32 a7] 24)).alloc (.cells #[.pointer none, .slice none 0 0] 65)) := by
    have := Lib.fresh_isBuilder 65 5 (w.alloc (.cells #[.int .u32 a0, .int .u32 a1, .int .u32 a2, .int .u32 a3, .int .u32 a4, .int .u32 a5, .int .u32 a6, .int .u32 a7] 24))
    rw [World.size_alloc] at this
    exact this
  have hB := ((Below.refl w.heap.size w).alloc (Nat.le_refl _) (.cells #[.int .u32 a0, .int .u32 a1, .int .u32 a2, .int .u32 a3, .int .u32 a4, .int .u32 a5, .int .u32 a6, .int .u32 a7] 24)).alloc (by simp) (.cells #[.pointer none, .slice none 0 0] 65)
  have hS : w.heap.size + 1 < ((w.alloc (.cells #[.int .u32 a0, .int .u32 a1, .int .u32 a2, .int .u32 a3, .int .u32 a4, .int .u32 a5, .int .u32 a6, .int .u32 a7] 24)).alloc (.cells #[.pointer none, .slice none 0 0] 65)).heap.size := by simp
  generalize World.alloc _ _ = W at *
  go_loopw [8] (fun c u => ∃ k : Nat, k ≤ 8 ∧ c = .int .i64 k ∧ Lib.IsBuilder 65 5 (w.heap.size + 1) (w.heap.size + 1) (Lib.byteCells (toldP h k 0)) u ∧ Below w.heap.size w u ∧ w.heap.size + 1 < u.heap.size) (fun c _ => 8 - (intOf c).toNat)
  case atStart => exact ⟨0, by omega, rfl, hI, hB, hS⟩
  case round =>
    clear hI hB hS
    obtain ⟨k, hk, rfl, hI, hB, hS⟩ := hrel
    by_cases hlt : k < 8
    · have hi := HI.out k hlt
      have dk : decide ((k : Int) < 8) = true := by simp; omega
      obtain ⟨x, hx⟩ : ∃ x, x = h.getD k 0 := ⟨_, rfl⟩
      rw [← hx] at hi
      have HX := Lib.hid hx
      clear hx
      go_wp2
      clear hi
      obtain ⟨wo, rfl⟩ : ∃ wo : World, wo = wr := ⟨_, rfl⟩
      go_loopw [11] (fun c u => ∃ n : Nat, n ≤ 4 ∧ c = .int .i64 n ∧ Lib.IsBuilder 65 5 (w.heap.size + 1) (w.heap.size + 1) (Lib.byteCells (toldP h k n)) u ∧ Below w.heap.size w u ∧ w.heap.size + 1 < u.heap.size) (fun c _ => 4 - (intOf c).toNat)
      case atStart => exact ⟨0, by omega, rfl, hI, hB, hS⟩
      case round =>
        clear hI hB hS
        obtain ⟨n, hn, rfl, hI, hB, hS⟩ := hrel
        have hl := toldP_length h k n (by omega)
        rw [HH.out] at hl
        by_cases hn4 : n < 4
        · have step : ∀ (c : Int), c = ((wb x).getD n 0).toNat → Lib.byteCells (toldP h k n) ++ [Value.int .u8 c] = Lib.byteCells (toldP h k (n + 1)) := fun c hc => by
            rw [hc, ← byteCells_snoc]
            unfold toldP
            rw [← HX.out, List.append_assoc, List.take_succ_eq_append_getElem (by simp [wb]; omega), List.getD_eq_getElem?_getD, List.getElem?_eq_getElem (by simp [wb]; omega)]
            rfl
          have ST := Lib.hid step
          clear step
          rcases (show n = 0 ∨ n = 1 ∨ n = 2 ∨ n = 3 by omega) with rfl | rfl | rfl | rfl
          all_goals
            go_wp2_with (go_at_call 30; refine (writeByte _ _ _ _ _ hI (by rw [byteCells_length]; omega) (by omega)).mono ?_)
            rintro e u ⟨rfl, hI2, hB2⟩
            rw [ST.out _ (by simp [wb, u8of_toNat])] at hI2
            have hB3 := hB.trans (hB2.mono (by omega))
            have hS3 : w.heap.size + 1 < u.heap.size := Nat.lt_of_lt_of_le hS hB2.size
            clear hI hB hB2 hS
            go_wp2
            go_roundw
            case rel => exact ⟨_, by decide, rfl, hI2, hB3, hS3⟩
            case measure => simp [intOf]
        · obtain rfl : n = 4 := by omega
          rw [toldP_word h HH.out k hlt] at hI
          go_wp2
          go_roundw
          case rel => exact ⟨k + 1, by omega, by go_num, hI, hB, hS⟩
          case measure => simp [intOf]; omega
    · obtain rfl : k = 8 := by omega
      rw [toldP_all h HH.out] at hI
      go_wp2_with (go_at_call 31; refine (Tryd.Builder_String_any _ _ _ _ hI (by omega)).mono ?_)
      rintro e u ⟨rfl, hB2⟩
      have hB3 := hB.trans (hB2.mono (by omega))
      clear hI hB hB2 hS
      go_wp2
      go_ret
      exact ⟨rfl, hB3⟩
end Go.Proofs.YtocfaglcaefnoaaDoor
