/- PASSES, IN PLAIN LEAN: what the printed functions of chapter 05 come to. -/
import Derived.Test.YtllkgojhpbacmaaDoorLump
set_option linter.unusedVariables false
set_option linter.unusedSimpArgs false
namespace Go.Proofs.YtllkgojhpbacmaaDoor
open Go.RowKit Go.Proofs.YtllkgojhpbacmaaDoor.Q Go.Proofs.YtllkgojhpbacmaaDoorW.PrintWords

theorem numB_size (v : Nat) : (numB v).size ≤ 9 := by
  unfold numB numL
  rw [strOfNums_size, List.length_cons, beL_length]
  have := nb_le v
  omega
theorem keyedF_eq (a b : ByteArray) (h : b.size ≤ 562949953421248) : keyedF a b = some (if a.size = 0 ∨ 32 < a.size then (⟨#[]⟩, 1) else (keyedB a b, 0)) := by
  unfold keyedF
  rw [if_pos h]
  split <;> rfl
/-- What a pass seals. -/
def saidB (t : ByteArray) (u : Nat) : ByteArray := textB t ++ numB u
theorem saidB_size (t : ByteArray) (u : Nat) : (saidB t u).size ≤ t.size + 12 := by
  unfold saidB
  rw [ByteArray.size_append]
  have := textB_size t; have := numB_size u
  omega
theorem textR_small {t : ByteArray} (h : t.size ≤ 65535) : textR t = (textB t, 0) := by unfold textR; rw [if_pos h]
def sealIn (t : ByteArray) (u : Nat) : ByteArray := (⟨#[4]⟩ : ByteArray) ++ saidB t u
theorem sealIn_size (t : ByteArray) (u : Nat) : (sealIn t u).size ≤ t.size + 13 := by
  unfold sealIn
  rw [ByteArray.size_append]
  have := saidB_size t u
  show 1 + _ ≤ _
  omega
def badKey (key : ByteArray) : Prop := key.size = 0 ∨ 32 < key.size
instance (key : ByteArray) : Decidable (badKey key) := by unfold badKey; exact inferInstance
theorem seal_f (key t : ByteArray) (u : Nat) (ht : t.size ≤ 65535) (hu : u < 18446744073709551616) :
    pass_seal.f key t (u : Int) = some (if badKey key then ((⟨#[]⟩ : ByteArray), saidB t u, (1 : Int)) else (keyedB key (sealIn t u), saidB t u, 0)) := by
  have h1 := textB_size t; have h2 := numB_size u; have h3 := sealIn_size t u
  unfold pass_seal.f lump_Num.f blake_Keyed.f
  have e1 : (textR t).1 = textB t := by rw [textR_small ht]
  rw [text_f, Option.bind_some, e1, if_pos ⟨by omega, by omega⟩, Option.bind_some, Int.toNat_natCast, if_pos (by omega), if_pos (by rw [ByteArray.size_append]; omega)]
  rw [show ((⟨#[4]⟩ : ByteArray) ++ (textB t ++ numB u)) = sealIn t u from rfl, keyedF_eq _ _ (by omega)]
  simp only [Option.bind_some]
  by_cases hk : key.size = 0 ∨ 32 < key.size
  · rw [if_pos hk, if_pos (show badKey key from hk)]
    rfl
  · rw [if_neg hk, if_neg (show ¬ badKey key from hk)]
    rfl
/-- A pass, or why there is none. -/
def issueR (key t : ByteArray) (u : Nat) : ByteArray × Int :=
  if (t.size = 0 ∨ 16 < t.size) ∨ badKey key then (⟨#[]⟩, 1) else (saidB t u ++ keyedB key (sealIn t u), 0)
theorem issue_f (key t : ByteArray) (u : Nat) (hu : u < 18446744073709551616) : Ev (fun k => pass_Issue.f k key t (u : Int)) (issueR key t u) := by
  by_cases h0 : t.size = 0
  · refine Ev.step (f := fun _ => some (issueR key t u)) (fun k => ?_) (Ev.now _)
    unfold pass_Issue.f issueR
    rw [if_pos (toList_nil.2 h0), if_pos (.inl (.inl h0))]
    simp only [pass_Issue.j0, if_true]
  have h0' : ¬ t.toList = ([] : List UInt8) := fun h => h0 (toList_nil.1 h)
  by_cases h1 : 16 < t.size
  · refine Ev.step (f := fun _ => some (issueR key t u)) (fun k => ?_) (Ev.now _)
    unfold pass_Issue.f issueR
    rw [if_neg h0', decide_eq_true (by omega), if_pos (.inl (.inr h1))]
    simp only [pass_Issue.j0, if_true]
  refine Ev.step (f := fun _ => some (issueR key t u)) (fun k => ?_) (Ev.now _)
  unfold pass_Issue.f issueR
  rw [if_neg h0', decide_eq_false (by omega)]
  simp only [pass_Issue.j0, Bool.false_eq_true, if_false]
  rw [seal_f key t u (by omega) hu]
  have h3 := saidB_size t u
  by_cases hk : badKey key
  · rw [if_pos hk, if_pos (.inr hk)]
    simp only [Option.bind_some]
    rw [if_neg (by decide)]
  · rw [if_neg hk, if_neg (fun h => h.elim (fun h => h.elim h0 h1) hk)]
    simp only [Option.bind_some, if_true]
    rw [if_pos (by rw [keyedB_size]; omega)]
theorem rsaid_f (t : ByteArray) (u : Nat) (ht : t.size ≤ 65535) (hu : u < 18446744073709551616) : Ev (fun k => cartoucheref05_said.f k t (u : Int)) (saidB t u) := by
  unfold cartoucheref05_said.f
  refine Ev.congr (f := fun k => (cartoucheref01_Num.f k (u : Int)).bind fun t154 => (if (textB t).size + t154.size ≤ 9223372036854775807 then (some (textB t ++ t154)) else (none))) (fun k => ?_) (Ev.bind (rnum_f u hu) ?_)
  · rw [rtext_f, textR_small ht]
    rfl
  · have h1 := textB_size t; have h2 := numB_size u
    rw [if_pos (by omega)]
    exact Ev.now _
theorem rissue_f (key t : ByteArray) (u : Nat) (hu : u < 18446744073709551616) : Ev (fun k => cartoucheref05_Issue.f k key t (u : Int)) (issueR key t u) := by
  have bad : (t.size = 0 ∨ 16 < t.size) ∨ badKey key → Ev (fun k => cartoucheref05_Issue.f k key t (u : Int)) (issueR key t u) := fun hb => by
    refine Ev.step (f := fun _ => some (issueR key t u)) (fun k => ?_) (Ev.now _)
    unfold cartoucheref05_Issue.f issueR
    rw [if_pos hb]
    have hj : cartoucheref05_Issue.j0 (k + 1) key t (u : Int) true = some (⟨#[]⟩, 1) := by simp only [cartoucheref05_Issue.j0, if_true]
    by_cases c1 : (t.size : Int) < 1
    · rw [if_pos c1, hj]
    rw [if_neg c1]
    by_cases c2 : (t.size : Int) > 16
    · rw [if_pos c2, hj]
    rw [if_neg c2]
    by_cases c3 : (key.size : Int) < 1
    · rw [if_pos c3, hj]
    rw [if_neg c3]
    unfold badKey at hb
    rw [decide_eq_true (by omega), hj]
  by_cases hb : (t.size = 0 ∨ 16 < t.size) ∨ badKey key
  · exact bad hb
  have h1 : ¬ (t.size : Int) < 1 := by omega
  have h2 : ¬ (t.size : Int) > 16 := by omega
  have h3 : ¬ (key.size : Int) < 1 := by unfold badKey at hb; omega
  have h4 : ¬ (key.size : Int) > 32 := by unfold badKey at hb; omega
  have hR : issueR key t u = (saidB t u ++ keyedB key (sealIn t u), 0) := by unfold issueR; rw [if_neg hb]
  have hj : Ev (fun k => cartoucheref05_Issue.j0 k key t (u : Int) false) (issueR key t u) := by
    refine Ev.step (f := fun k => (cartoucheref05_said.f k t (u : Int)).bind fun t155 => (if 1 + t155.size ≤ 9223372036854775807 then ((cartoucheref02_Keyed.f key ((⟨#[4]⟩ : ByteArray) ++ t155)).bind fun bt156 => (if t155.size + bt156.1.size ≤ 9223372036854775807 then (some (t155 ++ bt156.1, 0)) else (none))) else (none))) (fun k => ?_) (Ev.bind (rsaid_f t u (by omega) hu) ?_)
    · simp only [cartoucheref05_Issue.j0, Bool.false_eq_true, if_false]
    have h5 := saidB_size t u; have h6 := sealIn_size t u
    rw [if_pos (by omega)]
    change Ev (fun _ => (keyedF key (sealIn t u)).bind _) _
    rw [keyedF_eq _ _ (by omega), if_neg (show ¬(key.size = 0 ∨ 32 < key.size) from fun h => hb (.inr h)), hR]
    simp only [Option.bind_some]
    rw [if_pos (by rw [keyedB_size]; omega)]
    exact Ev.now _
  refine Ev.congr (fun k => ?_) hj
  unfold cartoucheref05_Issue.f
  rw [if_neg h1, if_neg h2, if_neg h3, decide_eq_false h4]

/-! ### A pass taken apart -/
def takeR (s : ByteArray) : ByteArray × Int × ByteArray × Int :=
  let (t, r, e) := takeTextR s 16
  let (u, v, f) := takeNumR r
  if e = 0 ∧ f = 0 ∧ t.size ≠ 0 ∧ v.size = 32 then (t, u, v, 0) else (⟨#[]⟩, 0, ⟨#[]⟩, 3)
theorem take_f (s : ByteArray) : Ev (fun k => pass_Take.f k s) (takeR s) := by
  unfold pass_Take.f takeR
  rw [takeText_f]
  simp only [Option.bind_some]
  refine Ev.bind (takeNum_f _) ?_
  generalize takeTextR s 16 = a
  obtain ⟨t, r, e⟩ := a
  simp only
  generalize takeNumR r = b
  obtain ⟨u, v, f⟩ := b
  simp only
  by_cases h1 : e = 0
  · simp only [if_pos h1]
    by_cases h2 : f = 0
    · simp only [if_pos h2]
      by_cases h3 : t.size = 0
      · rw [if_pos (toList_nil.2 h3), if_neg (fun h => h.2.2.1 h3)]
        exact Ev.now _
      rw [if_neg (fun h => h3 (toList_nil.1 h))]
      by_cases h4 : v.size = 32
      · rw [if_pos (by omega), if_pos ⟨h1, h2, h3, h4⟩]
        exact Ev.now _
      · rw [if_neg (by omega), if_neg (fun h => h4 h.2.2.2)]
        exact Ev.now _
    · simp only [if_neg h2]
      rw [if_neg (fun h => h2 h.2.1)]
      exact Ev.now _
  · simp only [if_neg h1]
    rw [if_neg (fun h => h1 h.1)]
    exact Ev.now _
theorem rtake_f (s : ByteArray) : Ev (fun k => cartoucheref05_Take.f k s) (takeR s) := by
  have hbad : ∀ x y : ByteArray, Ev (fun k => cartoucheref05_Take.j0 k x y true) ((⟨#[]⟩ : ByteArray), (0 : Int), (⟨#[]⟩ : ByteArray), (3 : Int)) := fun x y => by
    refine Ev.step (f := fun _ => some _) (fun k => ?_) (Ev.now _)
    simp only [cartoucheref05_Take.j0, if_true]
  unfold cartoucheref05_Take.f takeR
  refine Ev.bind (rtakeText_f s 16) ?_
  generalize takeTextR s 16 = a
  obtain ⟨t, r, e⟩ := a
  simp only
  by_cases h1 : e = 0
  · simp only [if_pos h1]
    by_cases h3 : t.size = 0
    · simp only [show ((t.size : Int) == 0) = true by simp [h3]]
      rw [if_neg (fun h => h.2.2.1 h3)]
      exact hbad _ _
    · simp only [show ((t.size : Int) == 0) = false by simp [h3]]
      refine Ev.step (f := fun k => (cartoucheref01_TakeNum.f k r).bind fun bt164 => (if bt164.2.2 = 0 then (if (bt164.2.1.size : Int) = 32 then (some (t, bt164.1, bt164.2.1, 0)) else (some ((⟨#[]⟩ : ByteArray), 0, (⟨#[]⟩ : ByteArray), 3))) else (some ((⟨#[]⟩ : ByteArray), 0, (⟨#[]⟩ : ByteArray), 3)))) (fun k => ?_) (Ev.bind (rtakeNum_f r) ?_)
      · simp only [cartoucheref05_Take.j0, Bool.false_eq_true, if_false]
      generalize takeNumR r = b
      obtain ⟨u, v, f⟩ := b
      simp only
      by_cases h2 : f = 0
      · simp only [if_pos h2]
        by_cases h4 : v.size = 32
        · rw [if_pos (by omega), if_pos ⟨h1, h2, h3, h4⟩]
          exact Ev.now _
        · rw [if_neg (by omega), if_neg (fun h => h4 h.2.2.2)]
          exact Ev.now _
      · simp only [if_neg h2]
        rw [if_neg (fun h => h2 h.2.1)]
        exact Ev.now _
  · simp only [if_neg h1]
    rw [if_neg (fun h => h1 h.1)]
    exact hbad _ _

/-! ### Equal -/
theorem odd_zero (x p q : Int) (hx0 : 0 ≤ x) (hx : x < 256) (hp0 : 0 ≤ p) (hp : p < 256) (hq0 : 0 ≤ q) (hq : q < 256) :
    0 ≤ Go.bits .or .u8 x (Go.bits .xor .u8 p q) ∧ Go.bits .or .u8 x (Go.bits .xor .u8 p q) < 256 ∧ (Go.bits .or .u8 x (Go.bits .xor .u8 p q) = 0 ↔ x = 0 ∧ p = q) := by
  obtain ⟨x, rfl⟩ := Int.eq_ofNat_of_zero_le hx0
  obtain ⟨p, rfl⟩ := Int.eq_ofNat_of_zero_le hp0
  obtain ⟨q, rfl⟩ := Int.eq_ofNat_of_zero_le hq0
  have h1 : p ^^^ q < 2 ^ 8 := Nat.xor_lt_two_pow (by omega) (by omega)
  have h2 : x ||| (p ^^^ q) < 2 ^ 8 := Nat.or_lt_two_pow (by omega) h1
  rw [u8_xor_nat p q (by omega) (by omega), u8_or_nat x _ (by omega) (by omega)]
  refine ⟨by omega, by omega, ?_⟩
  have e : x ||| (p ^^^ q) = 0 ↔ x = 0 ∧ p ^^^ q = 0 := Nat.or_eq_zero_iff
  have e2 : p ^^^ q = 0 ↔ p = q := by
    constructor
    · intro h
      have h3 : (p ^^^ q) ^^^ q = p := by rw [Nat.xor_assoc, Nat.xor_self, Nat.xor_zero]
      rw [h, Nat.zero_xor] at h3
      exact h3.symm
    · rintro rfl
      exact Nat.xor_self _
  omega
theorem equal_l0 (a b : ByteArray) (hs : a.size = b.size) (ha : a.size < 9223372036854775808) : ∀ (d j : Nat) (x : Int), j + d = a.size → 0 ≤ x → x < 256 →
    ∃ r : Bool, Ev (fun k => pass_Equal.l0 k a b x (a.size : Int) (j : Int)) r ∧ (r = true ↔ x = 0 ∧ ∀ i : Nat, j ≤ i → i < a.size → bt a i = bt b i)
  | 0, j, x, hj, h0, h1 => by
    refine ⟨x == 0, Ev.step (f := fun _ => some (x == 0)) (fun k => ?_) (Ev.now _), ?_⟩
    · simp only [pass_Equal.l0]
      rw [if_neg (by omega)]
    · rw [beq_iff_eq]
      exact ⟨fun h => ⟨h, fun i h1 h2 => by omega⟩, fun h => h.1⟩
  | d + 1, j, x, hj, h0, h1 => by
    have ra := bt_range a (j : Int); have rb := bt_range b (j : Int)
    obtain ⟨z0, z1, z2⟩ := odd_zero x (bt a (j : Int)) (bt b (j : Int)) h0 h1 ra.1 (by omega) rb.1 (by omega)
    obtain ⟨r, hr, hi⟩ := equal_l0 a b hs ha d (j + 1) _ (by omega) z0 z1
    refine ⟨r, Ev.step (fun k => ?_) hr, ?_⟩
    · simp only [pass_Equal.l0]
      rw [if_pos (by omega), if_pos (by omega), if_pos (by omega), if_pos (by omega), wrap_id (by omega) (by omega)]
      rfl
    · rw [hi, z2]
      constructor
      · rintro ⟨⟨hx, h2⟩, h⟩
        refine ⟨hx, fun i h3 h4 => ?_⟩
        by_cases hij : i = j
        · subst hij; exact h2
        · exact h i (by omega) h4
      · rintro ⟨hx, h⟩
        exact ⟨⟨hx, h j (Nat.le_refl _) (by omega)⟩, fun i h1 h2 => h i (by omega) h2⟩
theorem equal_f (a b : ByteArray) (ha : a.size < 9223372036854775808) : Ev (fun k => pass_Equal.f k a b) (decide (a = b)) := by
  unfold pass_Equal.f
  by_cases hs : a.size = b.size
  · obtain ⟨r, hr, hi⟩ := equal_l0 a b hs ha a.size 0 0 (by omega) (by omega) (by omega)
    have e : r = decide (a = b) := by
      rw [Bool.eq_iff_iff, hi, decide_eq_true_iff]
      exact ⟨fun h => ba_eq_bt hs fun j hj => h.2 j (Nat.zero_le _) hj, fun h => ⟨rfl, fun i _ _ => by rw [h]⟩⟩
    rw [← e]
    refine Ev.congr (fun k => ?_) hr
    rw [if_pos (by omega)]
    rfl
  · have e : decide (a = b) = false := decide_eq_false fun h => hs (by rw [h])
    rw [e]
    refine Ev.congr (f := fun _ => some false) (fun k => ?_) (Ev.now _)
    rw [if_neg (by omega)]
end Go.Proofs.YtllkgojhpbacmaaDoor
