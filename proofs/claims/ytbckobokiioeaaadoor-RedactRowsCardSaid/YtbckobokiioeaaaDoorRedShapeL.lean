/- The document's All and Shape of chapter 07, in plain Lean. -/
import Derived.Test.YtbckobokiioeaaaDoorRedL
set_option linter.unusedVariables false
set_option linter.unusedSimpArgs false
namespace Go.Proofs.YtbckobokiioeaaaDoor
open Go.RowKit Go.Proofs.YtbckobokiioeaaaDoor.Q Go.Proofs.YtbckobokiioeaaaDoor.R Go.Proofs.YtbckobokiioeaaaDoorW.PrintWords

theorem rall_l0 (seed : ByteArray) (h : List Evt) (hs : SmallE h) (hl : h.length ≤ 256) : ∀ (d k : Nat) (acc : List Evt), k + d = h.length → acc.length ≤ k → Ev (fun n => cartoucheref07_All.l0 n seed h acc (k : Int)) (allL seed acc (h.drop k))
  | 0, k, acc, hk, ha => by
    obtain rfl : k = h.length := by omega
    rw [List.drop_length]
    refine Ev.step (f := fun _ => some (acc, 0)) (fun n => ?_) (Ev.now _)
    simp only [cartoucheref07_All.l0]
    rw [if_neg (by omega)]
  | d + 1, k, acc, hk, ha => by
    rw [drop_rd h k (by omega)]
    have hx := hs _ (rd_mem h k (by omega))
    have h1 := rone_f seed (rd_T26 h (k : Int)).f0 (rd_T26 h (k : Int)).f1 _ _ hx.1 hx.2
    unfold allL
    refine Ev.step (fun n => ?_) (Ev.bind (f := fun n b => if b.2.2.2.2 = 0 then (if acc.length < 2932031007402 then cartoucheref07_All.l0 n seed h (acc ++ [⟨b.1, b.2.1, b.2.2.1, b.2.2.2.1⟩]) (wrap64 ((k : Int) + 1)) else none) else some ([], b.2.2.2.2)) h1 ?_)
    · simp only [cartoucheref07_All.l0]
      rw [if_pos (by omega), if_pos (by omega)]
    · by_cases he : errE seed (rd_T26 h (k : Int)) = 0
      · rw [if_pos he]
        unfold errE at he
        simp only [if_pos he, if_pos (show acc.length < 2932031007402 by omega), wrap_id (show -9223372036854775808 ≤ (k : Int) + 1 by omega) (by omega)]
        exact rall_l0 seed h hs hl d (k + 1) _ (by omega) (by simp; omega)
      · rw [if_neg he]
        unfold errE at he ⊢
        simp only [if_neg he]
        exact Ev.now _
theorem rall_f (seed : ByteArray) (h : List Evt) (hs : SmallE h) : Ev (fun k => cartoucheref07_All.f k seed h) (allR seed h) := by
  unfold cartoucheref07_All.f allR
  by_cases hl : h.length > 256
  · simp only [if_pos hl, if_pos (show (h.length : Int) > 256 by omega)]
    exact Ev.now _
  · simp only [if_neg hl, if_neg (show ¬ (h.length : Int) > 256 by omega)]
    exact rall_l0 seed h hs (by omega) h.length 0 [] (by omega) (by simp)
/-! ### A number's figures -/
theorem str_one (n : Nat) (h : n < 256) : strOfNums [((n : Nat) : Int)] = ⟨#[UInt8.ofNat n]⟩ := by
  apply bytes_eq
  simp [strOfNums]
theorem one_size (c : UInt8) : (⟨#[c]⟩ : ByteArray).size = 1 := rfl
theorem nil_size : (⟨#[]⟩ : ByteArray).size = 0 := rfl
theorem fig_last (n : Nat) (x : ByteArray) (hn : n < 10) (hx : x.size ≤ 100) : Ev (fun k => cartoucheref07_figures.l0 k (n : Int) x) ((⟨#[UInt8.ofNat (48 + n)]⟩ : ByteArray) ++ x) := by
  refine Ev.step (f := fun _ => some ((⟨#[UInt8.ofNat (48 + n)]⟩ : ByteArray) ++ x)) (fun k => ?_) (Ev.now _)
  have e : (48 + Int.tmod (n : Int) 10 % 256) % 256 = ((48 + n : Nat) : Int) := by rw [Int.tmod_eq_emod_of_nonneg (by omega)]; omega
  have e2 : wrap64 (Int.tdiv (n : Int) 10) = 0 := by rw [Int.tdiv_eq_ediv_of_nonneg (by omega), wrap_id (by omega) (by omega)]; omega
  unfold cartoucheref07_figures.l0
  refine Eq.trans (Option.bind_some _ _) ?_
  rw [e, str_one _ (by omega), if_pos (by rw [one_size]; omega), e2, if_pos rfl]
theorem fig_more (i : Nat) (h1 : ¬ i < 10) (hi : i < 100) : Ev (fun k => cartoucheref07_figures.l0 k (i : Int) ⟨#[]⟩) ((⟨#[UInt8.ofNat (48 + i / 10)]⟩ : ByteArray) ++ ((⟨#[UInt8.ofNat (48 + i % 10)]⟩ : ByteArray) ++ ⟨#[]⟩)) := by
  have h2 := fig_last (i / 10) ((⟨#[UInt8.ofNat (48 + i % 10)]⟩ : ByteArray) ++ ⟨#[]⟩) (by omega) (by rw [ByteArray.size_append, one_size, nil_size]; omega)
  refine Ev.step (fun k => ?_) h2
  have e : (48 + Int.tmod (i : Int) 10 % 256) % 256 = ((48 + i % 10 : Nat) : Int) := by rw [Int.tmod_eq_emod_of_nonneg (by omega)]; omega
  have e2 : wrap64 (Int.tdiv (i : Int) 10) = ((i / 10 : Nat) : Int) := by rw [Int.tdiv_eq_ediv_of_nonneg (by omega), wrap_id (by omega) (by omega)]; omega
  have e0 : cartoucheref07_figures.l0 (k + 1) (i : Int) ⟨#[]⟩ = (some ([(48 + Int.tmod (i : Int) 10 % 256) % 256] : List Int)).bind fun y162 => (if (strOfNums y162).size + (⟨#[]⟩ : ByteArray).size ≤ 9223372036854775807 then (if (wrap64 (Int.tdiv (i : Int) 10)) = 0 then (some ((strOfNums y162) ++ (⟨#[]⟩ : ByteArray))) else (cartoucheref07_figures.l0 k (wrap64 (Int.tdiv (i : Int) 10)) ((strOfNums y162) ++ (⟨#[]⟩ : ByteArray)))) else (none)) := by rw [cartoucheref07_figures.l0]
  rw [e0]
  refine Eq.trans (Option.bind_some _ _) ?_
  rw [e, str_one _ (by omega), if_pos (by rw [one_size, nil_size]; omega), e2, if_neg (by omega)]
theorem fig_f (i : Nat) (hi : i < 100) : Ev (fun k => cartoucheref07_figures.f k (i : Int)) (figB i) := by
  unfold cartoucheref07_figures.f
  by_cases h1 : i < 10
  · have e : figB i = (⟨#[UInt8.ofNat (48 + i)]⟩ : ByteArray) ++ ⟨#[]⟩ := by
      unfold figB
      rw [Lib.decDigits_one h1]
      apply bytes_eq
      simp
    rw [e]
    exact fig_last i ⟨#[]⟩ h1 (by rw [nil_size]; omega)
  · have e : figB i = (⟨#[UInt8.ofNat (48 + i / 10)]⟩ : ByteArray) ++ ((⟨#[UInt8.ofNat (48 + i % 10)]⟩ : ByteArray) ++ ⟨#[]⟩) := by
      unfold figB
      rw [Lib.decDigits_two h1 hi]
      apply bytes_eq
      simp
    rw [e]
    exact fig_more i h1 hi
/-! ### The document's Shape -/
theorem first_at {ks : List ByteArray} {s : ByteArray} (h : s ∈ ks) : ks[SM.firstOf s ks]? = some s := SM.firstOf_get h
theorem first_no {s : ByteArray} : ∀ {ks : List ByteArray} {j : Nat} {t : ByteArray}, j < SM.firstOf s ks → ks[j]? = some t → t ≠ s
  | [], j, t, h, e => by simp at e
  | k :: ks, j, t, h, e => by
    unfold SM.firstOf at h
    by_cases hk : k = s
    · rw [if_pos hk] at h; omega
    · rw [if_neg hk] at h
      cases j with
      | zero =>
        obtain rfl : k = t := by simpa using e
        exact hk
      | succ j => exact first_no (ks := ks) (j := j) (s := s) (by omega) (by simpa using e)
section
variable (h : List Evt) (hl : h.length ≤ 99)
include hl
theorem key_search (acc : List Evt) (i : Nat) (a b : Int) (s t : ByteArray) (hm : s ∈ keysB h) (r : List Evt) (hr : Ev (fun n => cartoucheref07_Shape.j2 n h acc (i : Int) a b (nmB ⟨#[107]⟩ (SM.firstOf s (keysB h))) t) r) :
    ∀ (d p : Nat), p + d = SM.firstOf s (keysB h) → Ev (fun n => cartoucheref07_Shape.l1 n h acc (i : Int) (p : Int) a b s t) r
  | 0, p, hp => by
    have hlt := SM.firstOf_lt hm
    have hlk : (keysB h).length = h.length := by unfold keysB; rw [List.length_map]
    have hg := first_at hm
    rw [← hp, Nat.add_zero] at hg
    unfold keysB at hg
    rw [List.getElem?_map, rd_get (show p < h.length by omega)] at hg
    have e : (rd_T26 h (p : Int)).f2 = s := Option.some.inj hg
    rw [← hp, Nat.add_zero] at hr
    have hf := fig_f p (by omega)
    have hz := fig_size p (by omega)
    refine Ev.step (fun n => ?_) (Ev.bind (f := fun n t_ => if 1 + t_.size ≤ 9223372036854775807 then cartoucheref07_Shape.j2 n h acc (i : Int) a b ((⟨#[107]⟩ : ByteArray) ++ t_) t else none) hf ?_)
    · simp only [cartoucheref07_Shape.l1]
      rw [if_pos (by omega), if_pos (by omega), if_pos (by rw [e])]
    · simp only [if_pos (show 1 + (figB p).size ≤ 9223372036854775807 by omega)]
      exact hr
  | d + 1, p, hp => by
    have hlt := SM.firstOf_lt hm
    have hlk : (keysB h).length = h.length := by unfold keysB; rw [List.length_map]
    have ih := key_search acc i a b s t hm r hr d (p + 1) (by omega)
    have hne : (rd_T26 h (p : Int)).f2 ≠ s := first_no (ks := keysB h) (j := p) (by omega) (by unfold keysB; rw [List.getElem?_map, rd_get (show p < h.length by omega)]; rfl)
    refine Ev.step (fun n => ?_) ih
    simp only [cartoucheref07_Shape.l1]
    rw [if_pos (by omega), if_pos (by omega), if_neg (fun x => hne (toList_inj.1 x)), wrap_id (by omega) (by omega)]
    rfl
theorem val_search (acc : List Evt) (i : Nat) (hi : i < h.length) (a b : Int) (s t : ByteArray) (ht : (rd_T26 h (i : Int)).f3 = t) (hacc : acc.length ≤ 99) (r : List Evt) (hr : Ev (fun n => cartoucheref07_Shape.l0 n h (acc ++ [⟨a, b, s, nmB ⟨#[118]⟩ (SM.firstOf t (valsB h))⟩]) ((i + 1 : Nat) : Int)) r) :
    ∀ (d p : Nat), p + d = SM.firstOf t (valsB h) → Ev (fun n => cartoucheref07_Shape.l2 n h acc (i : Int) (p : Int) a b s t) r
  | 0, p, hp => by
    have hm : t ∈ valsB h := by rw [← ht]; exact List.mem_map_of_mem (rd_mem h i hi)
    have hlt := SM.firstOf_lt hm
    have hlk : (valsB h).length = h.length := by unfold valsB; rw [List.length_map]
    have hg := first_at hm
    rw [← hp, Nat.add_zero] at hg
    unfold valsB at hg
    rw [List.getElem?_map, rd_get (show p < h.length by omega)] at hg
    have e : (rd_T26 h (p : Int)).f3 = t := Option.some.inj hg
    rw [← hp, Nat.add_zero] at hr
    have hf := fig_f p (by omega)
    have hz := fig_size p (by omega)
    refine Ev.step (fun n => ?_) (Ev.bind (f := fun n t_ => if 1 + t_.size ≤ 9223372036854775807 then (if acc.length < 2932031007402 then cartoucheref07_Shape.l0 n h (acc ++ [⟨a, b, s, (⟨#[118]⟩ : ByteArray) ++ t_⟩]) (wrap64 ((i : Int) + 1)) else none) else none) hf ?_)
    · simp only [cartoucheref07_Shape.l2]
      rw [if_pos (by omega), if_pos (by omega), if_pos (by omega), if_pos (by omega), if_pos (by rw [e, ht])]
    · simp only [if_pos (show 1 + (figB p).size ≤ 9223372036854775807 by omega), if_pos (show acc.length < 2932031007402 by omega), wrap_id (show -9223372036854775808 ≤ (i : Int) + 1 by omega) (by omega)]
      exact hr
  | d + 1, p, hp => by
    have hm : t ∈ valsB h := by rw [← ht]; exact List.mem_map_of_mem (rd_mem h i hi)
    have hlt := SM.firstOf_lt hm
    have hlk : (valsB h).length = h.length := by unfold valsB; rw [List.length_map]
    have ih := val_search acc i hi a b s t ht hacc r hr d (p + 1) (by omega)
    have hne : (rd_T26 h (p : Int)).f3 ≠ t := first_no (ks := valsB h) (j := p) (by omega) (by unfold valsB; rw [List.getElem?_map, rd_get (show p < h.length by omega)]; rfl)
    refine Ev.step (fun n => ?_) ih
    simp only [cartoucheref07_Shape.l2]
    rw [if_pos (by omega), if_pos (by omega), if_pos (by omega), if_pos (by omega), if_neg (fun x => hne ((toList_inj.1 x).trans ht)), wrap_id (by omega) (by omega)]
    rfl
theorem rshape_l0 : ∀ (d i : Nat), i + d = h.length → Ev (fun n => cartoucheref07_Shape.l0 n h ((shapeB h).take i) (i : Int)) (shapeB h)
  | 0, i, hi => by
    obtain rfl : i = h.length := by omega
    refine Ev.step (f := fun _ => some (shapeB h)) (fun n => ?_) (Ev.now _)
    simp only [cartoucheref07_Shape.l0]
    rw [if_neg (by omega), List.take_of_length_le (by rw [shapeB_length]; exact Nat.le_refl _)]
  | d + 1, i, hi => by
    have ih := rshape_l0 d (i + 1) (by omega)
    have hget := rd_get (show i < h.length by omega)
    have ht : (shapeB h).take (i + 1) = (shapeB h).take i ++ [shapeE h (rd_T26 h (i : Int))] := by
      have hs : (shapeB h)[i]? = some (shapeE h (rd_T26 h (i : Int))) := by unfold shapeB; rw [List.getElem?_map, hget]; rfl
      rw [List.take_add_one, hs]
      rfl
    have hlen : ((shapeB h).take i).length ≤ 99 := by rw [List.length_take, shapeB_length]; omega
    rw [ht] at ih
    have hk : (rd_T26 h (i : Int)).f2 ∈ keysB h := List.mem_map_of_mem (rd_mem h i (by omega))
    obtain ⟨x, hx⟩ : ∃ x, x = rd_T26 h (i : Int) := ⟨_, rfl⟩
    generalize (shapeB h).take i = acc at *
    have hj : ∀ K, K = nameR ⟨#[107]⟩ (keysB h) x.f2 → Ev (fun n => cartoucheref07_Shape.j2 n h acc (i : Int) x.f0 x.f1 K x.f3) (shapeB h) := fun K hK => by
      subst hK
      rw [← hx] at ih
      unfold shapeE at ih
      by_cases c : x.f3 = ⟨#[]⟩
      · refine Ev.step (fun n => ?_) ih
        simp only [cartoucheref07_Shape.j2]
        rw [if_pos (toList_nil.2 c), if_pos (by omega), wrap_id (by omega) (by omega)]
        have : nameR ⟨#[118]⟩ (valsB h) x.f3 = x.f3 := by unfold nameR; rw [if_pos c, c]
        rw [this]
        rfl
      · have hv : nameR ⟨#[118]⟩ (valsB h) x.f3 = nmB ⟨#[118]⟩ (SM.firstOf x.f3 (valsB h)) := by unfold nameR; rw [if_neg c]
        rw [hv] at ih
        have h2 := val_search h hl acc i (by omega) x.f0 x.f1 (nameR ⟨#[107]⟩ (keysB h) x.f2) x.f3 (by rw [hx]) hlen (shapeB h) ih _ 0 (Nat.zero_add _)
        refine Ev.step (fun n => ?_) h2
        simp only [cartoucheref07_Shape.j2]
        rw [if_neg (fun z => c (toList_nil.1 z))]
        rfl
    rw [← hx] at hk
    by_cases c : x.f2 = ⟨#[]⟩
    · have h2 := hj x.f2 (by unfold nameR; rw [if_pos c, c])
      refine Ev.step (fun n => ?_) h2
      simp only [cartoucheref07_Shape.l0]
      rw [if_pos (by omega), if_pos (by omega), ← hx, if_pos (toList_nil.2 c)]
    · have h2 := key_search h hl acc i x.f0 x.f1 x.f2 x.f3 hk (shapeB h) (hj _ (by unfold nameR; rw [if_neg c])) _ 0 (Nat.zero_add _)
      refine Ev.step (fun n => ?_) h2
      simp only [cartoucheref07_Shape.l0]
      rw [if_pos (by omega), if_pos (by omega), ← hx, if_neg (fun z => c (toList_nil.1 z))]
      rfl
theorem rshape_f : Ev (fun k => cartoucheref07_Shape.f k h) (shapeB h) := by
  have := rshape_l0 h hl h.length 0 (by omega)
  rw [List.take_zero] at this
  exact this
end
end Go.Proofs.YtbckobokiioeaaaDoor
