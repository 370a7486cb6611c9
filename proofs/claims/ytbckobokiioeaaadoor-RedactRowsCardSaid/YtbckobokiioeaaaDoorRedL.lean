/- TAGS AND SHAPES, IN PLAIN LEAN: histories. -/
import Derived.Test.YtbckobokiioeaaaDoorRS
import Derived.Test.YtbckobokiioeaaaDoorRedP
set_option linter.unusedVariables false
set_option linter.unusedSimpArgs false
namespace Go.Proofs.YtbckobokiioeaaaDoor
open Go.RowKit Go.Proofs.YtbckobokiioeaaaDoor.Q Go.Proofs.YtbckobokiioeaaaDoor.R Go.Proofs.YtbckobokiioeaaaDoorW.PrintWords

def SmallE (l : List Evt) : Prop := ∀ x ∈ l, x.f2.size ≤ 140737488351232 ∧ x.f3.size ≤ 140737488351232
theorem rd_nat (l : List Evt) (k : Nat) (h : k < l.length) : l[k]? = some (rd_T26 l (k : Int)) := rd_get h
theorem rd_mem (l : List Evt) (k : Nat) (h : k < l.length) : rd_T26 l (k : Int) ∈ l := List.mem_of_getElem? (rd_get h)
theorem drop_rd (l : List Evt) (k : Nat) (h : k < l.length) : l.drop k = rd_T26 l (k : Int) :: l.drop (k + 1) := by
  have h1 := rd_get h
  rw [List.getElem?_eq_getElem h] at h1
  rw [List.drop_eq_getElem_cons h, Option.some.inj h1]
/-! ### Same -/
theorem same_l0 (l : List Evt) (hl : l.length ≤ 9223372036854775806) : ∀ (d k : Nat), k + d = l.length → Ev (fun n => cartoucheref06_Same.l0 n l l (k : Int)) true
  | 0, k, hk => by
    refine Ev.step (f := fun _ => some true) (fun n => ?_) (Ev.now _)
    simp only [cartoucheref06_Same.l0]
    rw [if_neg (by omega)]
  | d + 1, k, hk => by
    have ih := same_l0 l hl d (k + 1) (by omega)
    refine Ev.step (fun n => ?_) ih
    simp only [cartoucheref06_Same.l0]
    rw [if_pos (by omega), if_pos (by omega), if_pos (by omega), if_neg (by simp), wrap_id (by omega) (by omega)]
    rfl
theorem same_f (l m : List Evt) (hl : l.length ≤ 9223372036854775806) (h : l = m) : Ev (fun k => cartoucheref06_Same.f k l m) true := by
  subst h
  unfold cartoucheref06_Same.f
  simp only [if_true]
  exact same_l0 l hl l.length 0 (by omega)
/-! ### Shape -/
theorem shape_f (l : List Evt) (h : l.length ≤ 99) (hs : ∀ x ∈ l, x.f2.size ≤ maxLen ∧ x.f3.size ≤ maxLen) : redact_Shape.f l = some (shapeB l) := by
  unfold redact_Shape.f
  rw [if_pos ⟨h, hs⟩]
theorem SmallE.max {l : List Evt} (h : SmallE l) : ∀ x ∈ l, x.f2.size ≤ maxLen ∧ x.f3.size ≤ maxLen := fun x hx => by
  have := h x hx
  unfold maxLen
  omega
theorem figB_0 : figB 0 = ⟨#[48]⟩ := by
  unfold figB
  rw [Lib.decDigits_one (by decide)]
  rfl
theorem shown_f : cartouchelaw07_shown.f = some true := by
  have h : shapeB [⟨3, 1, ⟨#[97]⟩, ⟨#[120]⟩⟩, ⟨2, 2, ⟨#[97]⟩, ⟨#[120]⟩⟩] = [(⟨3, 1, ⟨#[107, 48]⟩, ⟨#[118, 48]⟩⟩ : Evt), ⟨2, 2, ⟨#[107, 48]⟩, ⟨#[118, 48]⟩⟩] := by
    have hk : nameR ⟨#[107]⟩ [⟨#[97]⟩, ⟨#[97]⟩] ⟨#[97]⟩ = ⟨#[107, 48]⟩ := by
      unfold nameR nmB SM.firstOf
      rw [if_neg (by decide), if_pos rfl, figB_0]
      rfl
    have hv : nameR ⟨#[118]⟩ [⟨#[120]⟩, ⟨#[120]⟩] ⟨#[120]⟩ = ⟨#[118, 48]⟩ := by
      unfold nameR nmB SM.firstOf
      rw [if_neg (by decide), if_pos rfl, figB_0]
      rfl
    simp only [shapeB, shapeE, keysB, valsB, List.map_cons, List.map_nil, hk, hv]
  unfold cartouchelaw07_shown.f
  rw [shape_f _ (by decide) (by
    intro x hx
    simp only [List.mem_cons, List.not_mem_nil, or_false] at hx
    rcases hx with rfl | rfl <;> decide), h]
  refine Eq.trans (Option.bind_some _ _) ?_
  rw [if_pos (by decide), if_pos (by decide), if_pos (by rw [Lib.toList_data]; rfl), if_pos (by rw [Lib.toList_data]; rfl), if_pos (by decide), if_pos (by rw [Lib.toList_data]; rfl)]
  refine congrArg some (beq_iff_eq.2 ?_)
  rw [Lib.toList_data]
  rfl
theorem few_f (l : List Evt) : cartouchelaw07_few.f l = some (decide (l.length ≤ 60)) := congrArg some (decide_eq_decide.2 (by omega))
/-! ### All -/
def oneE (seed : ByteArray) (x : Evt) : Evt := ⟨(oneR seed x.f0 x.f1 x.f2 x.f3).1, (oneR seed x.f0 x.f1 x.f2 x.f3).2.1, (oneR seed x.f0 x.f1 x.f2 x.f3).2.2.1, (oneR seed x.f0 x.f1 x.f2 x.f3).2.2.2.1⟩
def errE (seed : ByteArray) (x : Evt) : Int := (oneR seed x.f0 x.f1 x.f2 x.f3).2.2.2.2
def allL (seed : ByteArray) : List Evt → List Evt → List Evt × Int
  | acc, [] => (acc, 0)
  | acc, x :: r => if errE seed x = 0 then allL seed (acc ++ [oneE seed x]) r else ([], errE seed x)
def allR (seed : ByteArray) (h : List Evt) : List Evt × Int := if h.length > 256 then ([], 4) else allL seed [] h
theorem allL_ok (seed : ByteArray) : ∀ (h acc : List Evt), (allL seed acc h).2 = 0 → (∀ x ∈ h, errE seed x = 0) ∧ (allL seed acc h).1 = acc ++ h.map (oneE seed)
  | [], acc, _ => ⟨fun x hx => (by cases hx), (by simp [allL])⟩
  | x :: r, acc, h => by
    unfold allL at h ⊢
    by_cases hx : errE seed x = 0
    · rw [if_pos hx] at h ⊢
      obtain ⟨h1, h2⟩ := allL_ok seed r _ h
      refine ⟨fun y hy => ?_, by rw [h2]; simp⟩
      rcases List.mem_cons.1 hy with rfl | hy
      · exact hx
      · exact h1 y hy
    · rw [if_neg hx] at h
      exact absurd h hx
theorem allL_all (seed : ByteArray) : ∀ (h acc : List Evt), (∀ x ∈ h, errE seed x = 0) → allL seed acc h = (acc ++ h.map (oneE seed), 0)
  | [], acc, _ => by simp [allL]
  | x :: r, acc, h => by
    unfold allL
    rw [if_pos (h x (by simp)), allL_all seed r _ (fun y hy => h y (by simp [hy]))]
    simp
theorem all_l0 (seed : ByteArray) (h : List Evt) (hs : SmallE h) (hl : h.length ≤ 256) : ∀ (d k : Nat) (acc : List Evt), k + d = h.length → acc.length ≤ k → Ev (fun n => redact_All.l0 n seed acc h (h.length : Int) (k : Int)) (allL seed acc (h.drop k))
  | 0, k, acc, hk, ha => by
    obtain rfl : k = h.length := by omega
    rw [List.drop_length]
    refine Ev.step (f := fun _ => some (acc, 0)) (fun n => ?_) (Ev.now _)
    simp only [redact_All.l0]
    rw [if_neg (by omega)]
  | d + 1, k, acc, hk, ha => by
    rw [drop_rd h k (by omega)]
    have hx := hs _ (rd_mem h k (by omega))
    have h1 := one_f seed (rd_T26 h (k : Int)).f0 (rd_T26 h (k : Int)).f1 _ _ hx.1 hx.2
    unfold allL
    refine Ev.step (fun n => ?_) (Ev.bind (f := fun n b => if b.2.2.2.2 = 0 then (if acc.length < 2932031007402 then redact_All.l0 n seed (acc ++ [⟨b.1, b.2.1, b.2.2.1, b.2.2.2.1⟩]) h (h.length : Int) (wrap64 ((k : Int) + 1)) else none) else some ([], b.2.2.2.2)) h1 ?_)
    · simp only [redact_All.l0]
      rw [if_pos (by omega), if_pos (by omega), if_pos (by omega)]
    · by_cases he : errE seed (rd_T26 h (k : Int)) = 0
      · rw [if_pos he]
        unfold errE at he
        simp only [if_pos he, if_pos (show acc.length < 2932031007402 by omega), wrap_id (show -9223372036854775808 ≤ (k : Int) + 1 by omega) (by omega)]
        exact all_l0 seed h hs hl d (k + 1) _ (by omega) (by simp; omega)
      · rw [if_neg he]
        unfold errE at he ⊢
        simp only [if_neg he]
        exact Ev.now _
theorem all_f (seed : ByteArray) (h : List Evt) (hs : SmallE h) : Ev (fun k => redact_All.f k seed h) (allR seed h) := by
  unfold redact_All.f allR
  by_cases hl : h.length > 256
  · simp only [if_pos hl, if_pos (show (h.length : Int) > 256 by omega)]
    exact Ev.now _
  · simp only [if_neg hl, if_neg (show ¬ (h.length : Int) > 256 by omega)]
    exact all_l0 seed h hs (by omega) h.length 0 [] (by omega) (by simp)
end Go.Proofs.YtbckobokiioeaaaDoor
