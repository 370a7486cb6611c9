/- TEXTS AS BYTES (lump, cartoucheref01), IN PLAIN LEAN: what the printed functions come to. -/
import Derived.Test.YtnigomohlgcojaaDoorQ
import Derived.Laws.BitsLemmas
import Derived.Laws.BitsAllLaws
set_option linter.unusedVariables false
set_option linter.unusedSimpArgs false
namespace Go.Proofs.YtnigomohlgcojaaDoor
open Go.RowKit Go.Proofs.YtnigomohlgcojaaDoor.Q Go.Proofs.YtnigomohlgcojaaDoorW.PrintWords

theorem wrap_id {x : Int} (h0 : -9223372036854775808 ≤ x) (h1 : x < 9223372036854775808) : wrap64 x = x := by unfold wrap64; omega
theorem wrapu_id {x : Int} (h0 : 0 ≤ x) (h1 : x < 18446744073709551616) : IntKind.u64.wrap x = x := by rw [IntKind.wrap_u64]; omega
theorem ba_size (s : ByteArray) : s.data.toList.length = s.size := by rw [Array.length_toList]; rfl
theorem ba_ext {a b : ByteArray} (h : a.data.toList = b.data.toList) : a = b := ByteArray.ext (Array.toList_inj.1 h)
theorem toList_inj {a b : ByteArray} : a.toList = b.toList ↔ a = b := by
  rw [Lib.toList_data, Lib.toList_data]
  exact ⟨ba_ext, fun h => by rw [h]⟩
theorem toList_nil {s : ByteArray} : s.toList = ([] : List UInt8) ↔ s.size = 0 := by
  rw [Lib.toList_data, ← ba_size]
  exact List.length_eq_zero_iff.symm
theorem bt_get (s : ByteArray) (j : Nat) : bt s (j : Int) = ((s.data.toList.getD j 0).toNat : Int) := by
  unfold bt
  split
  · rename_i h
    simp only [Int.toNat_natCast] at h
    have h' : j < s.data.toList.length := by rw [ba_size]; exact h
    rw [List.getD_eq_getElem?_getD, List.getElem?_eq_getElem h']
    rfl
  · rename_i h
    simp only [Int.toNat_natCast] at h
    have h' : s.data.toList.length ≤ j := by rw [ba_size]; omega
    rw [List.getD_eq_getElem?_getD, List.getElem?_eq_none h']
    rfl
theorem bt_wrap (s : ByteArray) (i : Int) : wrap64 (bt s i) = bt s i := by
  have := bt_range s i
  exact wrap_id (by omega) (by omega)
theorem ba_eq_bt {a b : ByteArray} (hs : a.size = b.size) (h : ∀ j : Nat, j < a.size → bt a j = bt b j) : a = b := by
  refine ba_ext (List.ext_getElem (by rw [ba_size, ba_size, hs]) fun i h1 h2 => ?_)
  have := h i (by rw [← ba_size]; exact h1)
  rw [bt_get, bt_get, List.getD_eq_getElem?_getD, List.getD_eq_getElem?_getD, List.getElem?_eq_getElem h1, List.getElem?_eq_getElem h2] at this
  simp only [Option.getD_some] at this
  exact UInt8.toNat_inj.1 (by omega)

/-! ### Lengths -/
def lenL (n : Int) : List Int := if n ≤ 250 then [n % 256] else [251, n / 256 % 256, n % 256]
def lenB (n : Int) : ByteArray := strOfNums (lenL n)
theorem lenB_size (n : Int) : (lenB n).size ≤ 3 := by
  unfold lenB lenL
  rw [strOfNums_size]
  split <;> simp
theorem length_f (n : Int) : lump_length.f n = some (lenB n) := by
  unfold lump_length.f lenB lenL
  split <;> rfl
theorem size_f (n : Int) (h0 : 0 ≤ n) (h1 : n < 9223372036854775808) : cartoucheref01_size.f n = some (lenB n) := by
  unfold cartoucheref01_size.f lenB lenL
  split
  · rfl
  · rw [Int.tdiv_eq_ediv_of_nonneg h0, Int.tmod_eq_emod_of_nonneg h0, wrap_id (by omega) (by omega), show n % 256 % 256 = n % 256 by omega]
/-- A text's bytes. -/
def textB (s : ByteArray) : ByteArray := lenB (s.size : Int) ++ s
theorem textB_size (s : ByteArray) : (textB s).size ≤ s.size + 3 := by
  unfold textB
  rw [ByteArray.size_append]
  have := lenB_size (s.size : Int)
  omega
def textR (s : ByteArray) : ByteArray × Int := if s.size ≤ 65535 then (textB s, 0) else (⟨#[]⟩, 4)
theorem text_f (s : ByteArray) : lump_Text.f s = some (textR s) := by
  unfold lump_Text.f textR
  have hl := lenB_size (s.size : Int)
  by_cases h : s.size ≤ 65535
  · rw [if_neg (by omega), if_pos h, length_f]
    simp only [Option.bind_some]
    rw [if_pos (by omega)]
    rfl
  · rw [if_pos (by omega), if_neg h]
theorem rtext_f (s : ByteArray) : cartoucheref01_Text.f s = some (textR s) := by
  unfold cartoucheref01_Text.f textR
  have hl := lenB_size (s.size : Int)
  by_cases h : s.size ≤ 65535
  · rw [if_neg (by omega), if_pos h, size_f _ (by omega) (by omega)]
    simp only [Option.bind_some]
    rw [if_pos (by omega)]
    rfl
  · rw [if_pos (by omega), if_neg h]

end Go.Proofs.YtnigomohlgcojaaDoor
