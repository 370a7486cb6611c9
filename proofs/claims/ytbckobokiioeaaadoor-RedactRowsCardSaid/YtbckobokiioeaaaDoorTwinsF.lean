/- redact.Twins: what it answers (the walk stands in XTwins). -/
import Derived.Test.YtbckobokiioeaaaDoorRedTwinsR
set_option linter.unusedVariables false
namespace Go.Proofs.YtbckobokiioeaaaDoor
open Go.RowKit Go.Proofs.YtbckobokiioeaaaDoor.Q Go.Proofs.YtbckobokiioeaaaDoor.R Go.Proofs.YtbckobokiioeaaaDoorW.PrintWords

def redact_Twins.f (seed : ByteArray) (h : List Evt) : Option (ByteArray × ByteArray × Bool) :=
  if h.length ≤ 60 ∧ ∀ x ∈ h, x.f2.size ≤ 140737488351232 ∧ x.f3.size ≤ 140737488351232 then some (twinsR seed h) else none
/-- The inputs that the code ranges over: of events that have keys, longer than one byte. -/
def inputsK (h : List Evt) : List ByteArray := ((h.filter fun x => decide (keyedE x.f0)).map fun x => (⟨#[5]⟩ : ByteArray) ++ x.f2).filter fun s => decide (1 < s.size)
def inputsV (h : List Evt) : List ByteArray := ((h.filter fun x => decide (keyedE x.f0)).map fun x => (⟨#[6]⟩ : ByteArray) ++ x.f3).filter fun s => decide (1 < s.size)
theorem ne_of_size {b : UInt8} {s : ByteArray} : (⟨#[b]⟩ : ByteArray) ++ s ≠ ⟨#[]⟩ := fun h => by
  have := congrArg ByteArray.size h
  rw [ByteArray.size_append, one_size, nil_size] at this
  omega
theorem inputsV_eq (h : List Evt) : inputsV h = (h.map vIn).filter (fun y => decide (y ≠ ⟨#[]⟩)) := by
  unfold inputsV
  induction h with
  | nil => rfl
  | cons x r ih =>
    by_cases hk : keyedE x.f0
    · rw [List.filter_cons_of_pos (by simpa using hk), List.map_cons, List.map_cons]
      by_cases c : x.f3 = ⟨#[]⟩
      · have hv : vIn x = ⟨#[]⟩ := by unfold vIn; rw [if_pos hk, if_pos c]
        rw [hv, List.filter_cons_of_neg (a := (⟨#[]⟩ : ByteArray)) (by simp), List.filter_cons_of_neg (by rw [c, ByteArray.size_append, one_size, nil_size]; decide)]
        exact ih
      · have hv : vIn x = (⟨#[6]⟩ : ByteArray) ++ x.f3 := by unfold vIn; rw [if_pos hk, if_neg c]
        have hz : x.f3.size ≠ 0 := fun z => c (size_nil.1 z)
        rw [hv, List.filter_cons_of_pos (by rw [ByteArray.size_append, one_size]; exact decide_eq_true (by omega)), List.filter_cons_of_pos (p := fun y : ByteArray => decide (y ≠ (⟨#[]⟩ : ByteArray))) (decide_eq_true ne_of_size), ih]
    · have hv : vIn x = ⟨#[]⟩ := by unfold vIn; rw [if_neg hk]
      rw [List.filter_cons_of_neg (by simpa using hk), List.map_cons, hv, List.filter_cons_of_neg (a := (⟨#[]⟩ : ByteArray)) (by simp)]
      exact ih
theorem inputsK_eq (h : List Evt) (hm : ∀ x ∈ h, keyedE x.f0 → x.f2 ≠ ⟨#[]⟩) : inputsK h = (h.map kIn).filter (fun y => decide (y ≠ ⟨#[]⟩)) := by
  unfold inputsK
  induction h with
  | nil => rfl
  | cons x r ih =>
    have ih := ih (fun y hy => hm y (by simp [hy]))
    by_cases hk : keyedE x.f0
    · have hv : kIn x = (⟨#[5]⟩ : ByteArray) ++ x.f2 := by unfold kIn; rw [if_pos hk]
      have hz : x.f2.size ≠ 0 := fun z => hm x (by simp) hk (size_nil.1 z)
      rw [List.filter_cons_of_pos (by simpa using hk), List.map_cons, List.map_cons, hv, List.filter_cons_of_pos (by rw [ByteArray.size_append, one_size]; exact decide_eq_true (by omega)), List.filter_cons_of_pos (p := fun y : ByteArray => decide (y ≠ (⟨#[]⟩ : ByteArray))) (decide_eq_true ne_of_size), ih]
    · have hv : kIn x = ⟨#[]⟩ := by unfold kIn; rw [if_neg hk]
      rw [List.filter_cons_of_neg (by simpa using hk), List.map_cons, hv, List.filter_cons_of_neg (a := (⟨#[]⟩ : ByteArray)) (by simp)]
      exact ih
theorem ok_key {seed : ByteArray} {x : Evt} (he : errE seed x = 0) (hk : keyedE x.f0) : x.f2 ≠ ⟨#[]⟩ := fun z => by
  have h1 : oneP seed x.f0 x.f1 x.f2 x.f3 := Decidable.byContradiction fun hn => by
    unfold errE at he
    rw [oneR_no hn] at he
    cases he
  have := ((mayK h1.2.1 hk).1 h1.2).1
  rw [z, nil_size] at this
  omega
/-- Twins by the inputs that the code ranges over. -/
theorem twinsR_eq (seed : ByteArray) (h : List Evt) (he : ∀ x ∈ h, errE seed x = 0) : twinsR seed h = bothR (twinU seed [] (inputsK h)) (twinU seed [] (inputsV h)) := by
  unfold twinsR
  rw [if_pos he, twinU_filter seed (h.map kIn), twinU_filter seed (h.map vIn), ← inputsK_eq h (fun x hx => ok_key (he x hx)), ← inputsV_eq h]
  rfl
end Go.Proofs.YtbckobokiioeaaaDoor
