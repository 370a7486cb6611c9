/- NUMBERS AND TEXTS AS BYTES (lump, cartoucheref01), IN PLAIN LEAN: what the printed functions come to. -/
import Derived.Test.YtllkgojhpbacmaaDoorQ
import Derived.Laws.BitsLemmas
import Derived.Laws.BitsAllLaws
set_option linter.unusedVariables false
set_option linter.unusedSimpArgs false
namespace Go.Proofs.YtllkgojhpbacmaaDoor
open Go.RowKit Go.Proofs.YtllkgojhpbacmaaDoor.Q Go.Proofs.YtllkgojhpbacmaaDoorW.PrintWords

theorem wrap_id {x : Int} (h0 : -9223372036854775808 ≤ x) (h1 : x < 9223372036854775808) : wrap64 x = x := by unfold wrap64; omega
theorem wrapu_id {x : Int} (h0 : 0 ≤ x) (h1 : x < 18446744073709551616) : IntKind.u64.wrap x = x := by rw [IntKind.wrap_u64]; omega
theorem ba_size (s : ByteArray) : s.data.toList.length = s.size := by rw [Array.length_toList]; rfl
theorem ba_ext {a b : ByteArray} (h : a.data.toList = b.data.toList) : a = b := ByteArray.ext (Array.toList_inj.1 h)
theorem toList_inj {a b : ByteArray} : a.toList = b.toList ↔ a = b := by
  rw [Lib.toList_data, Lib.toList_data]
  exact ⟨ba_ext, fun h => by rw [h]⟩
theorem toList_nil {s : ByteArray} : s.toList = ([] : List UInt8) ↔ s.size = 0 := by
  rw [Lib.toList_data, ← ba_size]
  exact List.length_eq_zero_iff.symm
theorem bt_get (s : ByteArray) (j : Nat) : bt s (j : Int) = ((s.data.toList.getD j 0).toNat : Int) := by
  unfold bt
  split
  · rename_i h
    simp only [Int.toNat_natCast] at h
    have h' : j < s.data.toList.length := by rw [ba_size]; exact h
    rw [List.getD_eq_getElem?_getD, List.getElem?_eq_getElem h']
    rfl
  · rename_i h
    simp only [Int.toNat_natCast] at h
    have h' : s.data.toList.length ≤ j := by rw [ba_size]; omega
    rw [List.getD_eq_getElem?_getD, List.getElem?_eq_none h']
    rfl
theorem bt_wrap (s : ByteArray) (i : Int) : wrap64 (bt s i) = bt s i := by
  have := bt_range s i
  exact wrap_id (by omega) (by omega)
theorem ba_eq_bt {a b : ByteArray} (hs : a.size = b.size) (h : ∀ j : Nat, j < a.size → bt a j = bt b j) : a = b := by
  refine ba_ext (List.ext_getElem (by rw [ba_size, ba_size, hs]) fun i h1 h2 => ?_)
  have := h i (by rw [← ba_size]; exact h1)
  rw [bt_get, bt_get, List.getD_eq_getElem?_getD, List.getD_eq_getElem?_getD, List.getElem?_eq_getElem h1, List.getElem?_eq_getElem h2] at this
  simp only [Option.getD_some] at this
  exact UInt8.toNat_inj.1 (by omega)

/-! ### Lengths -/
def lenL (n : Int) : List Int := if n ≤ 250 then [n % 256] else [251, n / 256 % 256, n % 256]
def lenB (n : Int) : ByteArray := strOfNums (lenL n)
theorem lenB_size (n : Int) : (lenB n).size ≤ 3 := by
  unfold lenB lenL
  rw [strOfNums_size]
  split <;> simp
theorem length_f (n : Int) : lump_length.f n = some (lenB n) := by
  unfold lump_length.f lenB lenL
  split <;> rfl
theorem size_f (n : Int) (h0 : 0 ≤ n) (h1 : n < 9223372036854775808) : cartoucheref01_size.f n = some (lenB n) := by
  unfold cartoucheref01_size.f lenB lenL
  split
  · rfl
  · rw [Int.tdiv_eq_ediv_of_nonneg h0, Int.tmod_eq_emod_of_nonneg h0, wrap_id (by omega) (by omega), show n % 256 % 256 = n % 256 by omega]
/-- A text's bytes. -/
def textB (s : ByteArray) : ByteArray := lenB (s.size : Int) ++ s
theorem textB_size (s : ByteArray) : (textB s).size ≤ s.size + 3 := by
  unfold textB
  rw [ByteArray.size_append]
  have := lenB_size (s.size : Int)
  omega
def textR (s : ByteArray) : ByteArray × Int := if s.size ≤ 65535 then (textB s, 0) else (⟨#[]⟩, 4)
theorem text_f (s : ByteArray) : lump_Text.f s = some (textR s) := by
  unfold lump_Text.f textR
  have hl := lenB_size (s.size : Int)
  by_cases h : s.size ≤ 65535
  · rw [if_neg (by omega), if_pos h, length_f]
    simp only [Option.bind_some]
    rw [if_pos (by omega)]
    rfl
  · rw [if_pos (by omega), if_neg h]
theorem rtext_f (s : ByteArray) : cartoucheref01_Text.f s = some (textR s) := by
  unfold cartoucheref01_Text.f textR
  have hl := lenB_size (s.size : Int)
  by_cases h : s.size ≤ 65535
  · rw [if_neg (by omega), if_pos h, size_f _ (by omega) (by omega)]
    simp only [Option.bind_some]
    rw [if_pos (by omega)]
    rfl
  · rw [if_pos (by omega), if_neg h]

/-! ### Numbers -/
theorem beL_snoc (v : Nat) : ∀ k, beL v (k + 1) = beL (v / 256) k ++ [((v % 256 : Nat) : Int)]
  | 0 => by simp [beL]
  | k + 1 => by
    have ih := beL_snoc v k
    show _ :: beL v (k + 1) = _
    rw [ih]
    show _ = _ :: (beL (v / 256) k ++ [((v % 256 : Nat) : Int)])
    rw [Nat.pow_succ, Nat.mul_comm, ← Nat.div_div_eq_div_mul]
theorem nb_step (v : Nat) (h : 0 < v) (hv : v < 18446744073709551616) : nb v = nb (v / 256) + 1 := by
  unfold nb
  rw [if_neg (by omega)]
  simp only [show v / 256 < 1 ↔ v < 256 by omega, show v / 256 < 256 ↔ v < 65536 by omega, show v / 256 < 65536 ↔ v < 16777216 by omega, show v / 256 < 16777216 ↔ v < 4294967296 by omega, show v / 256 < 4294967296 ↔ v < 1099511627776 by omega, show v / 256 < 1099511627776 ↔ v < 281474976710656 by omega, show v / 256 < 281474976710656 ↔ v < 72057594037927936 by omega, show v / 256 < 72057594037927936 ↔ v < 18446744073709551616 by omega]
  by_cases a0 : v < 256
  · rw [if_pos a0, if_pos a0]
  rw [if_neg a0, if_neg a0]
  by_cases a1 : v < 65536
  · rw [if_pos a1, if_pos a1]
  rw [if_neg a1, if_neg a1]
  by_cases a2 : v < 16777216
  · rw [if_pos a2, if_pos a2]
  rw [if_neg a2, if_neg a2]
  by_cases a3 : v < 4294967296
  · rw [if_pos a3, if_pos a3]
  rw [if_neg a3, if_neg a3]
  by_cases a4 : v < 1099511627776
  · rw [if_pos a4, if_pos a4]
  rw [if_neg a4, if_neg a4]
  by_cases a5 : v < 281474976710656
  · rw [if_pos a5, if_pos a5]
  rw [if_neg a5, if_neg a5]
  by_cases a6 : v < 72057594037927936
  · rw [if_pos a6, if_pos a6]
  rw [if_neg a6, if_neg a6]
  rw [if_pos hv]
theorem strOf_append (xs ys : List Int) : strOfNums xs ++ strOfNums ys = strOfNums (xs ++ ys) := by
  apply ByteArray.ext
  simp [strOfNums]
theorem rnum_l0 : ∀ (m : Nat) (v : Nat) (xs : List Int) (c : Nat), nb v = m → v < 18446744073709551616 → c + m ≤ 8 → xs.length = c →
    Ev (fun k => cartoucheref01_Num.l0 k (v : Int) (strOfNums xs) (c : Int)) (strOfNums (((c + m : Nat) : Int) :: (beL v m ++ xs)))
  | 0, v, xs, c, hn, hv, hc, hx => by
    have h0 : v = 0 := by
      unfold nb at hn
      repeat' split at hn
      all_goals omega
    subst h0
    refine Ev.step (f := fun _ => some (strOfNums (((c + 0 : Nat) : Int) :: (beL 0 0 ++ xs)))) (fun k => ?_) (Ev.now _)
    simp only [cartoucheref01_Num.l0]
    rw [if_neg (by decide)]
    simp only [Option.bind_some]
    rw [if_pos (by rw [strOfNums_size, strOfNums_size]; simp; omega), strOf_append]
    simp only [beL, List.nil_append, List.cons_append, Nat.add_zero]
    rw [Int.emod_eq_of_lt (by omega) (by omega)]
  | m + 1, v, xs, c, hn, hv, hc, hx => by
    have h0 : 0 < v := by
      cases v with
      | zero => simp [nb] at hn
      | succ v => omega
    have h1 := nb_step v h0 hv
    have ih := rnum_l0 m (v / 256) (((v % 256 : Nat) : Int) :: xs) (c + 1) (by omega) (by omega) (by omega) (by simp; omega)
    have e : strOfNums (((c + 1 + m : Nat) : Int) :: (beL (v / 256) m ++ ((v % 256 : Nat) : Int) :: xs)) = strOfNums (((c + (m + 1) : Nat) : Int) :: (beL v (m + 1) ++ xs)) := by
      rw [beL_snoc, List.append_assoc, show c + 1 + m = c + (m + 1) by omega]
      rfl
    rw [e] at ih
    refine Ev.step (fun k => ?_) ih
    simp only [cartoucheref01_Num.l0]
    rw [if_pos (by omega)]
    simp only [Option.bind_some]
    rw [if_pos (by rw [strOfNums_size, strOfNums_size]; simp; omega), strOf_append, Int.tmod_eq_emod_of_nonneg (by omega), Int.tdiv_eq_ediv_of_nonneg (by omega), wrapu_id (by omega) (by omega), wrap_id (by omega) (by omega)]
    simp only [List.cons_append, List.nil_append]
    rw [show ((v : Int) % 256) % 256 = ((v % 256 : Nat) : Int) by omega, show (v : Int) / 256 = ((v / 256 : Nat) : Int) by omega, show (c : Int) + 1 = ((c + 1 : Nat) : Int) by omega]
theorem rnum_f (v : Nat) (hv : v < 18446744073709551616) : Ev (fun k => cartoucheref01_Num.f k (v : Int)) (numB v) := by
  have h := rnum_l0 (nb v) v [] 0 rfl hv (by have := nb_le v; omega) (by simp)
  simp only [Nat.zero_add, List.append_nil] at h
  exact h

/-! ### Lengths taken -/
def takeLenR (s : ByteArray) : Int × ByteArray × Int :=
  if s.size = 0 then (0, ⟨#[]⟩, 2) else if bt s 0 < 251 then (bt s 0, s.extract 1 s.size, 0) else if bt s 0 > 251 then (0, ⟨#[]⟩, 3) else if s.size < 3 then (0, ⟨#[]⟩, 2)
  else if bt s 1 * 256 + bt s 2 ≤ 250 then (0, ⟨#[]⟩, 3) else (bt s 1 * 256 + bt s 2, s.extract 3 s.size, 0)
theorem or_lump (x y : Int) (h0 : 0 ≤ x) (h1 : x < 256) (h2 : 0 ≤ y) (h3 : y < 256) : Go.bits .or .i64 (wrap64 (x * 256)) y = x * 256 + y := by
  rw [wrap_id (by omega) (by omega)]
  exact bits_join .i64 63 (by decide) (fun n a b => by rw [IntKind.wrap_i64]; omega) 8 _ _ (by omega) (by omega) (by omega) h2 (by omega) (by omega)
theorem takeLength_f (s : ByteArray) : lump_takeLength.f s = some (takeLenR s) := by
  unfold lump_takeLength.f takeLenR
  have b0 := bt_range s 0; have b1 := bt_range s 1; have b2 := bt_range s 2
  by_cases h0 : s.size = 0
  · rw [if_pos (toList_nil.2 h0), if_pos h0]
  rw [if_neg (fun h => h0 (toList_nil.1 h)), if_neg h0, if_pos (by omega)]
  simp only [bt_wrap]
  by_cases h1 : bt s 0 < 251
  · rw [if_pos h1, if_pos (by omega), if_pos h1]
  rw [if_neg h1, if_neg h1]
  by_cases h2 : bt s 0 > 251
  · rw [if_pos h2, if_pos h2]
  rw [if_neg h2, if_neg h2]
  by_cases h3 : s.size < 3
  · rw [if_pos (by omega), if_pos h3]
  rw [if_neg (by omega), if_neg h3, if_pos (by omega), if_pos (by omega), or_lump _ _ (by omega) (by omega) (by omega) (by omega)]
  by_cases h4 : bt s 1 * 256 + bt s 2 ≤ 250
  · rw [if_pos h4, if_pos h4]
  rw [if_neg h4, if_neg h4, if_pos (by omega)]
theorem takeSize_f (s : ByteArray) : cartoucheref01_takeSize.f s = some (takeLenR s) := by
  unfold cartoucheref01_takeSize.f takeLenR
  have b0 := bt_range s 0; have b1 := bt_range s 1; have b2 := bt_range s 2
  by_cases h0 : s.size = 0
  · rw [if_pos (by omega), if_pos h0]
  rw [if_neg (by omega), if_neg h0, if_pos (by omega)]
  simp only [bt_wrap]
  by_cases h1 : bt s 0 < 251
  · rw [if_pos (by omega), if_pos (by omega), if_pos h1]
  rw [if_neg (by omega), if_neg h1]
  by_cases h2 : bt s 0 > 251
  · rw [if_pos h2, if_pos h2]
  rw [if_neg h2, if_neg h2]
  by_cases h3 : s.size < 3
  · rw [if_pos (by omega), if_pos h3]
  rw [if_neg (by omega), if_neg h3, if_pos (by omega), if_pos (by omega), wrap_id (x := 256 * bt s 1) (by omega) (by omega), wrap_id (by omega) (by omega), Int.mul_comm 256]
  by_cases h4 : bt s 1 * 256 + bt s 2 ≤ 250
  · rw [if_pos h4, if_pos h4]
  rw [if_neg h4, if_neg h4, if_pos (by omega)]
theorem takeLenR_pos (s : ByteArray) : 0 ≤ (takeLenR s).1 := by
  unfold takeLenR
  have b0 := bt_range s 0; have b1 := bt_range s 1; have b2 := bt_range s 2
  repeat' split
  all_goals first | exact Int.le_refl 0 | (show 0 ≤ bt s 0; omega) | (show 0 ≤ bt s 1 * 256 + bt s 2; omega)

/-! ### Texts taken -/
def takeTextR (s : ByteArray) (m : Int) : ByteArray × ByteArray × Int :=
  let (n, r, e) := takeLenR s
  if e = 0 then (if m < 0 ∨ n > m then (⟨#[]⟩, ⟨#[]⟩, 4) else if n > (r.size : Int) then (⟨#[]⟩, ⟨#[]⟩, 2) else (r.extract 0 n.toNat, r.extract n.toNat r.size, 0)) else (⟨#[]⟩, ⟨#[]⟩, e)
theorem takeText_f (s : ByteArray) (m : Int) : lump_TakeText.f s m = some (takeTextR s m) := by
  have hp := takeLenR_pos s
  unfold lump_TakeText.f takeTextR
  rw [takeLength_f]
  generalize takeLenR s = t at *
  obtain ⟨n, r, e⟩ := t
  simp only [Option.bind_some]
  replace hp : 0 ≤ n := hp
  by_cases he : e = 0
  · rw [if_pos he, if_pos he]
    by_cases h1 : m < 0
    · rw [if_pos h1, if_pos (.inl h1)]
    rw [if_neg h1]
    by_cases h2 : n > m
    · rw [if_pos h2, if_pos (.inr h2)]
    rw [if_neg h2, if_neg (show ¬(m < 0 ∨ n > m) from fun h => h.elim h1 h2)]
    by_cases h3 : n > (r.size : Int)
    · rw [if_pos h3, if_pos h3]
    rw [if_neg h3, if_neg h3, if_pos hp, if_pos (by omega)]
  · rw [if_neg he, if_neg he]
theorem rtakeText_f (s : ByteArray) (m : Int) : Ev (fun k => cartoucheref01_TakeText.f k s m) (takeTextR s m) := by
  refine Ev.step (f := fun _ => some (takeTextR s m)) (fun k => ?_) (Ev.now _)
  have hp := takeLenR_pos s
  simp only [cartoucheref01_TakeText.f, takeTextR]
  rw [takeSize_f]
  generalize takeLenR s = t at *
  obtain ⟨n, r, e⟩ := t
  simp only [Option.bind_some]
  replace hp : 0 ≤ n := hp
  by_cases he : e = 0
  · rw [if_pos he, if_pos he]
    by_cases h1 : m < 0
    · rw [if_pos h1, if_pos (.inl h1)]
      simp only [cartoucheref01_TakeText.j0, if_true]
    rw [if_neg h1]
    by_cases h2 : n > m
    · rw [if_pos (.inr h2), decide_eq_true h2]
      simp only [cartoucheref01_TakeText.j0, if_true]
    rw [if_neg (show ¬(m < 0 ∨ n > m) from fun h => h.elim h1 h2), decide_eq_false h2]
    simp only [cartoucheref01_TakeText.j0, Bool.false_eq_true, if_false]
    by_cases h3 : n > (r.size : Int)
    · rw [if_pos h3, if_pos h3]
    rw [if_neg h3, if_neg h3, if_pos hp, if_pos (by omega)]
  · rw [if_neg he, if_neg he]

/-! ### Numbers taken -/
def stepV (x b : Int) : Int := (x * 256 + b) % 18446744073709551616
def valV (s : ByteArray) : Nat → Int
  | 0 => 0
  | j + 1 => stepV (valV s j) (bt s ((j : Int) + 1))
theorem valV_range (s : ByteArray) (j : Nat) : 0 ≤ valV s j ∧ valV s j < 18446744073709551616 := by
  cases j with
  | zero => exact ⟨Int.le_refl 0, show (0 : Int) < 18446744073709551616 by decide⟩
  | succ j =>
    show 0 ≤ stepV _ _ ∧ stepV _ _ < _
    unfold stepV
    omega
theorem or_num (x y : Int) (h0 : 0 ≤ x) (h1 : x < 18446744073709551616) (h2 : 0 ≤ y) (h3 : y < 256) : Go.bits .or .u64 (IntKind.u64.wrap (x * 256)) (IntKind.u64.wrap y) = stepV x y := by
  rw [wrapu_id h2 (by omega), IntKind.wrap_u64]
  have h := bits_join .u64 64 (by decide) (fun n a b => wrapu_id (by omega) (by omega)) 8 (x * 256 % 18446744073709551616) y (by omega) (by omega) (by omega) h2 (by omega) (by omega)
  rw [h]
  unfold stepV
  omega
def takeNumR (s : ByteArray) : Int × ByteArray × Int :=
  if s.size = 0 then (0, ⟨#[]⟩, 2) else if 8 < bt s 0 then (0, ⟨#[]⟩, 3) else if (s.size : Int) ≤ bt s 0 then (0, ⟨#[]⟩, 2) else if 0 < bt s 0 ∧ bt s 1 = 0 then (0, ⟨#[]⟩, 3)
  else (valV s (bt s 0).toNat, s.extract ((bt s 0).toNat + 1) s.size, 0)
theorem takeNum_l0 (s : ByteArray) (n : Nat) (hn : n ≤ 8) (hs : n < s.size) : ∀ (d j : Nat), j + d = n →
    Ev (fun k => lump_TakeNum.l0 k s (valV s j) ((n : Int) + 1) (n : Int) (j : Int)) (valV s n, s.extract (n + 1) s.size, 0)
  | 0, j, hj => by
    obtain rfl : j = n := by omega
    refine Ev.step (f := fun _ => some (valV s j, s.extract (j + 1) s.size, 0)) (fun k => ?_) (Ev.now _)
    simp only [lump_TakeNum.l0]
    rw [if_neg (by omega), if_pos (by omega), if_pos (by omega)]
    rfl
  | d + 1, j, hj => by
    have ih := takeNum_l0 s n hn hs d (j + 1) (by omega)
    refine Ev.step (fun k => ?_) ih
    have b := bt_range s ((j : Int) + 1)
    have v := valV_range s j
    simp only [lump_TakeNum.l0]
    rw [if_pos (by omega), wrap_id (by omega) (by omega), if_pos (by omega), if_pos (by omega), or_num _ _ v.1 v.2 b.1 (by omega)]
    rfl
theorem takeNum_f (s : ByteArray) : Ev (fun k => lump_TakeNum.f k s) (takeNumR s) := by
  have b0 := bt_range s 0; have b1 := bt_range s 1
  by_cases h0 : s.size = 0
  · refine ⟨0, fun k _ => ?_⟩
    show lump_TakeNum.f k s = takeNumR s
    unfold lump_TakeNum.f takeNumR
    rw [if_pos (toList_nil.2 h0), if_pos h0]
  by_cases h1 : bt s 0 > 8
  · refine ⟨0, fun k _ => ?_⟩
    show lump_TakeNum.f k s = takeNumR s
    unfold lump_TakeNum.f takeNumR
    rw [if_neg (fun h => h0 (toList_nil.1 h)), if_neg h0, if_pos (by omega), if_pos h1, if_pos h1]
  by_cases h2 : (s.size : Int) ≤ bt s 0
  · refine ⟨0, fun k _ => ?_⟩
    show lump_TakeNum.f k s = takeNumR s
    unfold lump_TakeNum.f takeNumR
    rw [if_neg (fun h => h0 (toList_nil.1 h)), if_neg h0, if_pos (by omega), if_neg h1, if_neg h1, bt_wrap, if_pos h2, if_pos h2]
  by_cases h3 : 0 < bt s 0 ∧ bt s 1 = 0
  · refine ⟨0, fun k _ => ?_⟩
    show lump_TakeNum.f k s = takeNumR s
    unfold lump_TakeNum.f takeNumR
    rw [if_neg (fun h => h0 (toList_nil.1 h)), if_neg h0, if_pos (by omega), if_neg h1, if_neg h1, bt_wrap, if_neg h2, if_neg h2, if_pos h3.1, if_pos (by omega), if_pos h3.2, if_pos h3]
  obtain ⟨n, hn⟩ : ∃ n : Nat, bt s 0 = n := ⟨(bt s 0).toNat, by omega⟩
  have hl := takeNum_l0 s n (by omega) (by omega) n 0 (by omega)
  have hR : takeNumR s = (valV s n, s.extract (n + 1) s.size, 0) := by
    unfold takeNumR
    rw [if_neg h0, if_neg (by omega), if_neg h2, if_neg h3, hn]
    rfl
  rw [hR]
  have hj : Ev (fun k => lump_TakeNum.j0 k s) (valV s n, s.extract (n + 1) s.size, 0) := by
    refine Ev.step (fun k => ?_) hl
    simp only [lump_TakeNum.j0]
    rw [if_pos (by omega), bt_wrap, hn, wrap_id (x := (n : Int) + 1) (by omega) (by omega), wrap_id (by omega) (by omega), show (n : Int) + 1 - 1 = n by omega]
    rfl
  refine Ev.congr (fun k => ?_) hj
  try dsimp only
  unfold lump_TakeNum.f
  rw [if_neg (fun h => h0 (toList_nil.1 h)), if_pos (by omega), if_neg h1, bt_wrap, if_neg h2]
  by_cases h4 : bt s 0 > 0
  · rw [if_pos h4, if_pos (by omega), if_neg (fun h => h3 ⟨h4, h⟩)]
  · rw [if_neg h4]
theorem rtakeNum_l0 (s : ByteArray) (n : Nat) (hn : n ≤ 8) (hs : n < s.size) : ∀ (d j : Nat), j + d = n →
    Ev (fun k => cartoucheref01_TakeNum.l0 k s (n : Int) (valV s j) ((j : Int) + 1)) (valV s n, s.extract (n + 1) s.size, 0)
  | 0, j, hj => by
    obtain rfl : j = n := by omega
    refine Ev.step (f := fun _ => some (valV s j, s.extract (j + 1) s.size, 0)) (fun k => ?_) (Ev.now _)
    simp only [cartoucheref01_TakeNum.l0]
    rw [if_neg (by omega), wrap_id (by omega) (by omega), if_pos (by omega), if_pos (by omega)]
    rfl
  | d + 1, j, hj => by
    have ih := rtakeNum_l0 s n hn hs d (j + 1) (by omega)
    refine Ev.step (fun k => ?_) ih
    have b := bt_range s ((j : Int) + 1)
    have v := valV_range s j
    simp only [cartoucheref01_TakeNum.l0]
    have e : IntKind.u64.wrap (IntKind.u64.wrap (256 * valV s j) + IntKind.u64.wrap (bt s ((j : Int) + 1))) = valV s (j + 1) := by
      show _ = stepV _ _
      unfold stepV
      rw [IntKind.wrap_u64, IntKind.wrap_u64, IntKind.wrap_u64]
      omega
    rw [if_pos (by omega), if_pos (by omega), if_pos (by omega), e, wrap_id (by omega) (by omega), show (j : Int) + 1 + 1 = ((j + 1 : Nat) : Int) + 1 by omega]
theorem rtakeNum_f (s : ByteArray) : Ev (fun k => cartoucheref01_TakeNum.f k s) (takeNumR s) := by
  have b0 := bt_range s 0; have b1 := bt_range s 1
  by_cases h0 : s.size = 0
  · refine ⟨0, fun k _ => ?_⟩
    try dsimp only
    unfold cartoucheref01_TakeNum.f takeNumR
    rw [if_pos (by omega), if_pos h0]
  by_cases h1 : bt s 0 > 8
  · refine ⟨0, fun k _ => ?_⟩
    try dsimp only
    unfold cartoucheref01_TakeNum.f takeNumR
    rw [if_neg (by omega), if_neg h0, if_pos (by omega), bt_wrap, if_pos h1, if_pos h1]
  by_cases h2 : (s.size : Int) ≤ bt s 0
  · refine ⟨0, fun k _ => ?_⟩
    try dsimp only
    unfold cartoucheref01_TakeNum.f takeNumR
    rw [if_neg (by omega), if_neg h0, if_pos (by omega), bt_wrap, if_neg h1, if_neg h1, wrap_id (by omega) (by omega), if_pos (by omega), if_pos h2]
  obtain ⟨n, hn⟩ : ∃ n : Nat, bt s 0 = n := ⟨(bt s 0).toNat, by omega⟩
  by_cases h3 : 0 < bt s 0 ∧ bt s 1 = 0
  · refine Ev.step (f := fun _ => some (takeNumR s)) (fun k => ?_) (Ev.now _)
    try dsimp only
    unfold cartoucheref01_TakeNum.f takeNumR
    rw [if_neg (by omega), if_neg h0, if_pos (by omega), bt_wrap, if_neg h1, if_neg h1, wrap_id (by omega) (by omega), if_neg (by omega), if_neg h2, if_pos h3.1, if_pos (by omega), if_pos h3, h3.2]
    simp [cartoucheref01_TakeNum.j0]
  have hl := rtakeNum_l0 s n (by omega) (by omega) n 0 (by omega)
  have hR : takeNumR s = (valV s n, s.extract (n + 1) s.size, 0) := by
    unfold takeNumR
    rw [if_neg h0, if_neg (by omega), if_neg h2, if_neg h3, hn]
    rfl
  rw [hR]
  have hj : Ev (fun k => cartoucheref01_TakeNum.j0 k s (n : Int) false) (valV s n, s.extract (n + 1) s.size, 0) := by
    refine Ev.step (fun k => ?_) hl
    simp only [cartoucheref01_TakeNum.j0, Bool.false_eq_true, if_false]
    rfl
  refine Ev.congr (fun k => ?_) hj
  try dsimp only
  unfold cartoucheref01_TakeNum.f
  rw [if_neg (by omega), if_pos (by omega), bt_wrap, if_neg h1, wrap_id (by omega) (by omega), if_neg (by omega)]
  by_cases h4 : bt s 0 > 0
  · rw [if_pos h4, if_pos (by omega), hn]
    have h5 : (bt s 1 == 0) = false := by simpa using fun h => h3 ⟨h4, h⟩
    rw [h5]
  · rw [if_neg h4, hn]
end Go.Proofs.YtllkgojhpbacmaaDoor
