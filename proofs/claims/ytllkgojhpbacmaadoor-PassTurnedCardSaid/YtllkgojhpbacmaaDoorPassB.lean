/- A PASS CHECKED, AND WHAT WAS ISSUED TAKEN APART, IN PLAIN LEAN. -/
import Derived.Test.YtllkgojhpbacmaaDoorPass
set_option linter.unusedVariables false
set_option linter.unusedSimpArgs false
namespace Go.Proofs.YtllkgojhpbacmaaDoor
open Go.RowKit Go.Proofs.YtllkgojhpbacmaaDoor.Q Go.Proofs.YtllkgojhpbacmaaDoorW.PrintWords

theorem ext_list (s : ByteArray) (a b : Nat) : (s.extract a b).data.toList = (s.data.toList.take b).drop a := by
  rw [ByteArray.data_extract, Array.toList_extract]
  simp [List.extract, List.drop_take]
theorem extract_size_le (s : ByteArray) (a b : Nat) (hb : b ≤ s.size) : (s.extract a b).size = b - a := by
  rw [ByteArray.size_extract]
  omega
theorem takeTextR_le (s : ByteArray) (m : Int) (hm : 0 ≤ m) : ((takeTextR s m).1.size : Int) ≤ m := by
  have hp := takeLenR_pos s
  unfold takeTextR
  generalize takeLenR s = t at *
  obtain ⟨n, r, e⟩ := t
  simp only
  replace hp : 0 ≤ n := hp
  by_cases he : e = 0
  · rw [if_pos he]
    by_cases h1 : m < 0 ∨ n > m
    · rw [if_pos h1]
      exact hm
    rw [if_neg h1]
    by_cases h2 : n > (r.size : Int)
    · rw [if_pos h2]
      exact hm
    rw [if_neg h2]
    show ((r.extract 0 n.toNat).size : Int) ≤ m
    rw [extract_size_le _ _ _ (by omega)]
    omega
  · rw [if_neg he]
    exact hm
theorem takeNumR_range (s : ByteArray) : 0 ≤ (takeNumR s).1 ∧ (takeNumR s).1 < 18446744073709551616 := by
  have hv := valV_range s (bt s 0).toNat
  unfold takeNumR
  by_cases h0 : s.size = 0
  · rw [if_pos h0]; exact ⟨Int.le_refl 0, show (0 : Int) < 18446744073709551616 by decide⟩
  rw [if_neg h0]
  by_cases h1 : 8 < bt s 0
  · rw [if_pos h1]; exact ⟨Int.le_refl 0, show (0 : Int) < 18446744073709551616 by decide⟩
  rw [if_neg h1]
  by_cases h2 : (s.size : Int) ≤ bt s 0
  · rw [if_pos h2]; exact ⟨Int.le_refl 0, show (0 : Int) < 18446744073709551616 by decide⟩
  rw [if_neg h2]
  by_cases h3 : 0 < bt s 0 ∧ bt s 1 = 0
  · rw [if_pos h3]; exact ⟨Int.le_refl 0, show (0 : Int) < 18446744073709551616 by decide⟩
  rw [if_neg h3]
  exact hv
/-- What a pass taken apart is good for. -/
theorem takeR_spec (s : ByteArray) : takeR s = (⟨#[]⟩, 0, ⟨#[]⟩, 3) ∨ ∃ (t v : ByteArray) (u : Nat), takeR s = (t, (u : Int), v, 0) ∧ 1 ≤ t.size ∧ t.size ≤ 16 ∧ u < 18446744073709551616 ∧ v.size = 32 := by
  have h1 := takeTextR_le s 16 (by omega)
  have h2 := takeNumR_range (takeTextR s 16).2.1
  unfold takeR
  generalize takeTextR s 16 = a at *
  obtain ⟨t, r, e⟩ := a
  simp only at h1 h2 ⊢
  generalize takeNumR r = b at *
  obtain ⟨u, v, f⟩ := b
  simp only at h2 ⊢
  by_cases h : e = 0 ∧ f = 0 ∧ t.size ≠ 0 ∧ v.size = 32
  · rw [if_pos h]
    exact .inr ⟨t, v, u.toNat, by rw [Int.toNat_of_nonneg h2.1], by omega, by omega, by omega, h.2.2.2⟩
  · rw [if_neg h]
    exact .inl rfl
/-- A pass checked. -/
def checkR (key s : ByteArray) (now : Int) : ByteArray × Int :=
  let (t, u, v, e) := takeR s
  if e = 0 then (if badKey key ∨ v ≠ keyedB key (sealIn t u.toNat) then (⟨#[]⟩, 10) else if u < now then (⟨#[]⟩, 11) else (t, 0)) else (⟨#[]⟩, e)
theorem check_f (key s : ByteArray) (now : Int) : Ev (fun k => pass_Check.f k key s now) (checkR key s now) := by
  have hj : ∀ (t : ByteArray) (u : Int), Ev (fun k => pass_Check.j0 k now t u true) ((⟨#[]⟩ : ByteArray), (10 : Int)) := fun t u => by
    refine Ev.step (f := fun _ => some _) (fun k => ?_) (Ev.now _)
    simp only [pass_Check.j0, if_true]
  have hs := takeR_spec s
  unfold pass_Check.f checkR
  refine Ev.bind (take_f s) ?_
  rcases hs with h | ⟨t, v, u, h, ht1, ht2, hu, hv⟩
  · rw [h]
    simp only [if_neg (show ¬ (3 : Int) = 0 by decide)]
    exact Ev.now _
  rw [h]
  simp only [if_true, Int.toNat_natCast]
  rw [seal_f key t u (by omega) hu]
  simp only [Option.bind_some]
  by_cases hk : badKey key
  · rw [if_pos hk, if_pos (.inl hk)]
    simp only [if_neg (show ¬ (1 : Int) = 0 by decide)]
    exact hj _ _
  rw [if_neg hk]
  simp only [if_true]
  refine Ev.bind (equal_f v _ (by omega)) ?_
  by_cases he : v = keyedB key (sealIn t u)
  · rw [decide_eq_true he, if_neg (fun h => h.elim hk (fun h => h he))]
    refine Ev.step (f := fun _ => some _) (fun k => ?_) (Ev.now _)
    simp only [pass_Check.j0, Bool.not_true, Bool.false_eq_true, if_false]
    split <;> rfl
  · rw [decide_eq_false he, if_pos (.inr he)]
    exact hj _ _
theorem rcheck_f (key s : ByteArray) (now : Int) : Ev (fun k => cartoucheref05_Check.f k key s now) (checkR key s now) := by
  have hj : ∀ (t : ByteArray) (u : Int), Ev (fun k => cartoucheref05_Check.j0 k now t u true) ((⟨#[]⟩ : ByteArray), (10 : Int)) := fun t u => by
    refine Ev.step (f := fun _ => some _) (fun k => ?_) (Ev.now _)
    simp only [cartoucheref05_Check.j0, if_true]
  have hs := takeR_spec s
  unfold cartoucheref05_Check.f checkR
  refine Ev.bind (rtake_f s) ?_
  rcases hs with h | ⟨t, v, u, h, ht1, ht2, hu, hv⟩
  · rw [h]
    simp only [if_neg (show ¬ (3 : Int) = 0 by decide)]
    exact Ev.now _
  rw [h]
  simp only [if_true, Int.toNat_natCast]
  refine Ev.bind (rsaid_f t u (by omega) hu) ?_
  have h5 := saidB_size t u; have h6 := sealIn_size t u
  simp only [if_pos (show 1 + (saidB t u).size ≤ 9223372036854775807 by omega)]
  have hK : cartoucheref02_Keyed.f key ((⟨#[4]⟩ : ByteArray) ++ saidB t u) = some (if badKey key then (⟨#[]⟩, 1) else (keyedB key (sealIn t u), 0)) := by
    unfold cartoucheref02_Keyed.f
    exact keyedF_eq _ _ (by show (sealIn t u).size ≤ _; omega)
  simp only [hK, Option.bind_some]
  by_cases hk : badKey key
  · rw [if_pos (show badKey key ∨ v ≠ keyedB key (sealIn t u) from .inl hk)]
    simp only [if_pos hk, if_neg (show ¬ (1 : Int) = 0 by decide)]
    exact hj _ _
  simp only [if_neg hk, if_true]
  by_cases he : v = keyedB key (sealIn t u)
  · rw [if_neg (fun h => h.elim hk (fun h => h he))]
    have hb : (v.toList != (keyedB key (sealIn t u)).toList) = false := by simp [he]
    rw [hb]
    refine Ev.step (f := fun _ => some _) (fun k => ?_) (Ev.now _)
    simp only [cartoucheref05_Check.j0, Bool.false_eq_true, if_false]
    split <;> rfl
  · rw [if_pos (.inr he)]
    have hb : (v.toList != (keyedB key (sealIn t u)).toList) = true := by
      rw [bne_iff_ne]
      exact fun h => he (toList_inj.1 h)
    rw [hb]
    exact hj _ _

/-! ### Back -/
theorem beL_get (v : Nat) : ∀ (m j : Nat), j < m → (beL v m).getD j 0 = ((v / 256 ^ (m - 1 - j) % 256 : Nat) : Int)
  | 0, j, h => by omega
  | m + 1, 0, h => by simp [beL]
  | m + 1, j + 1, h => by
    have ih := beL_get v m j (by omega)
    show (beL v m).getD j 0 = _
    rw [ih, show m + 1 - 1 - (j + 1) = m - 1 - j by omega]
theorem nb_div (u : Nat) (hu : u < 18446744073709551616) : u / 256 ^ nb u = 0 ∧ (0 < nb u → u / 256 ^ (nb u - 1) % 256 ≠ 0) := by
  unfold nb
  repeat' split
  all_goals simp only [Nat.reducePow, Nat.reduceSub, Nat.pow_zero, Nat.pow_one, Nat.lt_irrefl, false_implies, and_true]
  all_goals omega
theorem strOf_get (xs : List Int) (j : Nat) (h : ∀ x ∈ xs, 0 ≤ x ∧ x < 256) (hj : j < xs.length) : (((strOfNums xs).data.toList.getD j 0).toNat : Int) = xs.getD j 0 := by
  rw [strOfNums_data, List.getD_eq_getElem?_getD, List.getD_eq_getElem?_getD, List.getElem?_map, List.getElem?_eq_getElem hj]
  have := h xs[j] (List.getElem_mem hj)
  simp only [Option.map_some, Option.getD_some]
  rw [UInt8.toNat_ofNat']
  omega
theorem numL_range (v : Nat) : ∀ x ∈ numL v, 0 ≤ x ∧ x < 256 := by
  have hb : ∀ m, ∀ x ∈ beL v m, 0 ≤ x ∧ x < 256 := by
    intro m
    induction m with
    | zero => simp [beL]
    | succ m ih =>
      intro x hx
      rcases List.mem_cons.1 hx with rfl | hx
      · omega
      · exact ih x hx
  intro x hx
  have := nb_le v
  rcases List.mem_cons.1 hx with rfl | hx
  · omega
  · exact hb _ x hx
theorem bt_left (a b : ByteArray) (j : Nat) (hj : j < a.size) : bt (a ++ b) (j : Int) = ((a.data.toList.getD j 0).toNat : Int) := by
  rw [bt_get, ByteArray.data_append, Array.toList_append, List.getD_eq_getElem?_getD, List.getElem?_append_left (by rw [ba_size]; exact hj), ← List.getD_eq_getElem?_getD]
theorem numB_size' (u : Nat) : (numB u).size = nb u + 1 := by
  unfold numB numL
  rw [strOfNums_size, List.length_cons, beL_length]
theorem bt_num (u : Nat) (v : ByteArray) (j : Nat) (hj : j < nb u + 1) : bt (numB u ++ v) (j : Int) = (numL u).getD j 0 := by
  rw [bt_left _ _ _ (by rw [numB_size']; exact hj)]
  exact strOf_get _ _ (numL_range u) (by unfold numL; rw [List.length_cons, beL_length]; exact hj)
theorem valV_num (u : Nat) (hu : u < 18446744073709551616) (v : ByteArray) : ∀ j, j ≤ nb u → valV (numB u ++ v) j = ((u / 256 ^ (nb u - j) : Nat) : Int)
  | 0, _ => by
    rw [Nat.sub_zero, (nb_div u hu).1]
    rfl
  | j + 1, hj => by
    have ih := valV_num u hu v j (by omega)
    have hb : bt (numB u ++ v) ((j : Int) + 1) = ((u / 256 ^ (nb u - (j + 1)) % 256 : Nat) : Int) := by
      rw [show (j : Int) + 1 = ((j + 1 : Nat) : Int) by omega, bt_num u v (j + 1) (by omega)]
      show (beL u (nb u)).getD j 0 = _
      rw [beL_get u (nb u) j (by omega), show nb u - 1 - j = nb u - (j + 1) by omega]
    show stepV _ _ = _
    rw [ih, hb]
    unfold stepV
    have hd : u / 256 ^ (nb u - j) = u / 256 ^ (nb u - (j + 1)) / 256 := by
      rw [Nat.div_div_eq_div_mul, ← Nat.pow_succ, show Nat.succ (nb u - (j + 1)) = nb u - j by omega]
    have hle : u / 256 ^ (nb u - (j + 1)) ≤ u := Nat.div_le_self _ _
    rw [hd]
    generalize u / 256 ^ (nb u - (j + 1)) = y at *
    omega
theorem back_num (u : Nat) (hu : u < 18446744073709551616) (v : ByteArray) : takeNumR (numB u ++ v) = ((u : Int), v, 0) := by
  have hb := nb_le u
  have h0 : bt (numB u ++ v) 0 = (nb u : Int) := bt_num u v 0 (by omega)
  have hs : (numB u ++ v).size = nb u + 1 + v.size := by rw [ByteArray.size_append, numB_size']
  have h1 : ¬ (0 < bt (numB u ++ v) 0 ∧ bt (numB u ++ v) 1 = 0) := by
    rintro ⟨h2, h3⟩
    have h4 := (nb_div u hu).2 (by omega)
    have h5 := bt_num u v 1 (by omega)
    have h6 : (numL u).getD 1 0 = (beL u (nb u)).getD 0 0 := rfl
    rw [h6, beL_get u (nb u) 0 (by omega)] at h5
    have h7 : bt (numB u ++ v) ((1 : Nat) : Int) = bt (numB u ++ v) 1 := rfl
    rw [h7, h3] at h5
    simp only [Nat.sub_zero] at h5
    omega
  unfold takeNumR
  rw [if_neg (by omega), if_neg (by omega), if_neg (by omega), if_neg h1, h0, Int.toNat_natCast, valV_num u hu v _ (Nat.le_refl _)]
  have hx : (numB u ++ v).extract (nb u + 1) (numB u ++ v).size = v := by
    apply ba_ext
    rw [ext_list, List.take_of_length_le (by rw [ba_size]; omega), ByteArray.data_append, Array.toList_append]
    have hl : (numB u).data.toList.length = nb u + 1 := by rw [ba_size, numB_size']
    rw [← hl, List.drop_left]
  rw [hx]
  simp
theorem back_text (t r : ByteArray) (h1 : t.size ≤ 250) (m : Int) (hm : (t.size : Int) ≤ m) : takeTextR (textB t ++ r) m = (t, r, 0) := by
  have hl : lenL (t.size : Int) = [(t.size : Int)] := by
    unfold lenL
    rw [if_pos (by omega), show (t.size : Int) % 256 = t.size by omega]
  have hd : (textB t ++ r).data.toList = UInt8.ofNat t.size :: (t.data.toList ++ r.data.toList) := by
    unfold textB lenB
    rw [hl, ByteArray.data_append, ByteArray.data_append, Array.toList_append, Array.toList_append, strOfNums_data]
    simp
  have hs : (textB t ++ r).size = 1 + t.size + r.size := by
    rw [← ba_size, hd, List.length_cons, List.length_append, ba_size, ba_size]
    omega
  have h0 : bt (textB t ++ r) 0 = (t.size : Int) := by
    have := bt_get (textB t ++ r) 0
    rw [hd] at this
    rw [show ((0 : Nat) : Int) = 0 from rfl] at this
    rw [this]
    simp only [List.getD_cons_zero]
    rw [UInt8.toNat_ofNat']
    omega
  have hlen : takeLenR (textB t ++ r) = ((t.size : Int), t ++ r, 0) := by
    unfold takeLenR
    rw [if_neg (by omega), if_pos (by omega), h0]
    have hx : (textB t ++ r).extract 1 (textB t ++ r).size = t ++ r := by
      apply ba_ext
      rw [ext_list, List.take_of_length_le (by rw [ba_size]; omega), hd, ByteArray.data_append, Array.toList_append]
      rfl
    rw [hx]
  unfold takeTextR
  rw [hlen]
  simp only [if_true]
  rw [if_neg (by omega), if_neg (by rw [ByteArray.size_append]; omega), Int.toNat_natCast]
  have hx : (t ++ r).extract 0 t.size = t := by
    apply ba_ext
    rw [ext_list, ByteArray.data_append, Array.toList_append, List.drop_zero, ← ba_size, List.take_left]
  have hy : (t ++ r).extract t.size (t ++ r).size = r := by
    apply ba_ext
    rw [ext_list, List.take_of_length_le (by rw [ba_size]; omega), ByteArray.data_append, Array.toList_append, ← ba_size t, List.drop_left]
  rw [hx, hy]
theorem back_said (t v : ByteArray) (u : Nat) (h1 : 1 ≤ t.size) (h2 : t.size ≤ 16) (hu : u < 18446744073709551616) : takeR (saidB t u ++ v) = if v.size = 32 then (t, (u : Int), v, 0) else (⟨#[]⟩, 0, ⟨#[]⟩, 3) := by
  unfold takeR saidB
  rw [ByteArray.append_assoc, back_text t _ (by omega) 16 (by omega)]
  simp only
  rw [back_num u hu]
  simp only
  by_cases hv : v.size = 32
  · rw [if_pos ⟨trivial, trivial, by omega, hv⟩, if_pos hv]
  · rw [if_neg (fun h => hv h.2.2.2), if_neg hv]
/-- What was issued. -/
theorem issueR_ok (key t : ByteArray) (u : Nat) : issueR key t u = (⟨#[]⟩, 1) ∧ ((t.size = 0 ∨ 16 < t.size) ∨ badKey key) ∨
    issueR key t u = (saidB t u ++ keyedB key (sealIn t u), 0) ∧ 1 ≤ t.size ∧ t.size ≤ 16 ∧ ¬ badKey key := by
  unfold issueR
  by_cases h : (t.size = 0 ∨ 16 < t.size) ∨ badKey key
  · rw [if_pos h]
    exact .inl ⟨rfl, h⟩
  · rw [if_neg h]
    exact .inr ⟨rfl, by omega, by omega, fun h2 => h (.inr h2)⟩
theorem check_own (key t v : ByteArray) (u : Nat) (now : Int) (h1 : 1 ≤ t.size) (h2 : t.size ≤ 16) (hu : u < 18446744073709551616) (hv : v.size = 32) :
    checkR key (saidB t u ++ v) now = if badKey key ∨ v ≠ keyedB key (sealIn t u) then (⟨#[]⟩, 10) else if (u : Int) < now then (⟨#[]⟩, 11) else (t, 0) := by
  unfold checkR
  rw [back_said t v u h1 h2 hu, if_pos hv]
  simp only [if_true, Int.toNat_natCast]
theorem check_form (key t v : ByteArray) (u : Nat) (now : Int) (h1 : 1 ≤ t.size) (h2 : t.size ≤ 16) (hu : u < 18446744073709551616) (hv : v.size ≠ 32) :
    checkR key (saidB t u ++ v) now = (⟨#[]⟩, 3) := by
  unfold checkR
  rw [back_said t v u h1 h2 hu, if_neg hv]
  simp only [if_neg (show ¬ (3 : Int) = 0 by decide)]
/-! ### The example -/
theorem shown_f : Ev (fun k => cartouchelaw05_shown.f k) true := by
  unfold cartouchelaw05_shown.f
  have hi := issue_f ⟨#[107]⟩ ⟨#[97]⟩ 5 (by decide)
  have hR : issueR ⟨#[107]⟩ ⟨#[97]⟩ 5 = (saidB ⟨#[97]⟩ 5 ++ keyedB ⟨#[107]⟩ (sealIn ⟨#[97]⟩ 5), 0) := by
    unfold issueR
    exact if_neg (by unfold badKey; decide)
  rw [hR] at hi
  refine Ev.bind hi ?_
  have hb : ¬ (badKey ⟨#[107]⟩ ∨ keyedB ⟨#[107]⟩ (sealIn ⟨#[97]⟩ 5) ≠ keyedB ⟨#[107]⟩ (sealIn ⟨#[97]⟩ 5)) := fun h => h.elim (by unfold badKey; decide) (fun h => h rfl)
  have c5 := check_f ⟨#[107]⟩ (saidB ⟨#[97]⟩ 5 ++ keyedB ⟨#[107]⟩ (sealIn ⟨#[97]⟩ 5)) 5
  rw [check_own _ _ _ 5 5 (by decide) (by decide) (by decide) (keyedB_size _ _), if_neg hb, if_neg (by decide)] at c5
  have c6 := check_f ⟨#[107]⟩ (saidB ⟨#[97]⟩ 5 ++ keyedB ⟨#[107]⟩ (sealIn ⟨#[97]⟩ 5)) 6
  rw [check_own _ _ _ 5 6 (by decide) (by decide) (by decide) (keyedB_size _ _), if_neg hb, if_pos (by decide)] at c6
  refine Ev.bind c5 (Ev.bind c6 ?_)
  simp only [if_true]
  simp only [if_pos (show (⟨#[97]⟩ : ByteArray).toList = [97] from by rw [Lib.toList_data])]
  exact Ev.now _
end Go.Proofs.YtllkgojhpbacmaaDoor
