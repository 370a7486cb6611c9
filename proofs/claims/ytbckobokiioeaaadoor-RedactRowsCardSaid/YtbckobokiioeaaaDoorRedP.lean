/- TAGS AND SHAPES, IN PLAIN LEAN: what the printed functions come to. -/
import Derived.Test.YtbckobokiioeaaaDoorQS2
import Derived.Test.YtbckobokiioeaaaDoorShape
set_option linter.unusedVariables false
set_option linter.unusedSimpArgs false
namespace Go.Proofs.YtbckobokiioeaaaDoor
open Go.RowKit Go.Proofs.YtbckobokiioeaaaDoor.Q Go.Proofs.YtbckobokiioeaaaDoorW.PrintWords

theorem wrap_id {x : Int} (h0 : -9223372036854775808 ≤ x) (h1 : x < 9223372036854775808) : wrap64 x = x := by unfold wrap64; omega
theorem ba_size (s : ByteArray) : s.data.toList.length = s.size := by rw [Array.length_toList]; rfl
theorem toList_inj {a b : ByteArray} : a.toList = b.toList ↔ a = b := by
  rw [Lib.toList_data, Lib.toList_data]
  exact ⟨bytes_eq, fun h => by rw [h]⟩
theorem toList_nil {s : ByteArray} : s.toList = ([] : List UInt8) ↔ s = ⟨#[]⟩ := by
  exact ⟨fun h => bytes_eq (by rw [← Lib.toList_data, h]), fun h => by rw [h, Lib.toList_data]⟩
theorem size_nil {s : ByteArray} : s.size = 0 ↔ s = ⟨#[]⟩ := by
  refine ⟨fun h => bytes_eq ?_, fun h => by rw [h]; rfl⟩
  rw [← ba_size] at h
  exact List.length_eq_zero_iff.1 h

/-! ### Tags -/
def badK (seed : ByteArray) : Prop := seed.size = 0 ∨ 32 < seed.size
instance (seed : ByteArray) : Decidable (badK seed) := by unfold badK; infer_instance
def keyT (seed s : ByteArray) : ByteArray := keyedB seed ((⟨#[5]⟩ : ByteArray) ++ s)
def valT (seed s : ByteArray) : ByteArray := if s = ⟨#[]⟩ then ⟨#[]⟩ else keyedB seed ((⟨#[6]⟩ : ByteArray) ++ s)
def keyR (seed s : ByteArray) : ByteArray × Int := if badK seed then (⟨#[]⟩, 1) else (keyT seed s, 0)
def valR (seed s : ByteArray) : ByteArray × Int := if badK seed then (⟨#[]⟩, 1) else (valT seed s, 0)
theorem keyed_one (seed s : ByteArray) (b : UInt8) (h : s.size ≤ 140737488351232) : keyedF seed ((⟨#[b]⟩ : ByteArray) ++ s) = some (if badK seed then (⟨#[]⟩, 1) else (keyedB seed ((⟨#[b]⟩ : ByteArray) ++ s), 0)) := by
  unfold keyedF
  rw [if_pos (by rw [ByteArray.size_append]; show 1 + s.size ≤ _; omega)]
  by_cases hb : badK seed
  · rw [if_pos hb]
    exact if_pos hb
  · rw [if_neg hb]
    exact if_neg hb
theorem key_f (seed s : ByteArray) (h : s.size ≤ 140737488351232) : redact_KeyTag.f seed s = some (keyR seed s) := by
  unfold redact_KeyTag.f redact_named_key.f blake_Keyed.f
  rw [if_pos (by omega)]
  refine Eq.trans (Option.bind_some _ _) ?_
  rw [keyed_one seed s 5 h]
  rfl
theorem rkey_f (seed s : ByteArray) (h : s.size ≤ 140737488351232) : cartoucheref07_KeyTag.f seed s = some (keyR seed s) := by
  unfold cartoucheref07_KeyTag.f cartoucheref02_Keyed.f
  rw [if_pos (by omega), keyed_one seed s 5 h]
  rfl
theorem val_f (seed s : ByteArray) (h : s.size ≤ 140737488351232) : redact_ValTag.f seed s = some (valR seed s) := by
  unfold redact_ValTag.f redact_named_val.f blake_Keyed.f
  rw [if_pos (by omega)]
  refine Eq.trans (Option.bind_some _ _) ?_
  rw [keyed_one seed s 6 h]
  refine Eq.trans (Option.bind_some _ _) ?_
  unfold valR valT
  by_cases hb : badK seed
  · simp only [if_pos hb]
    rw [if_neg (by decide)]
  · simp only [if_neg hb, if_true]
    by_cases h0 : s = ⟨#[]⟩
    · rw [if_pos (toList_nil.2 h0), if_pos h0]
    · rw [if_neg (fun x => h0 (toList_nil.1 x)), if_neg h0]
theorem rval_f (seed s : ByteArray) (h : s.size ≤ 140737488351232) : cartoucheref07_ValTag.f seed s = some (valR seed s) := by
  unfold cartoucheref07_ValTag.f cartoucheref02_Keyed.f
  rw [if_pos (by omega), keyed_one seed s 6 h]
  refine Eq.trans (Option.bind_some _ _) ?_
  unfold valR valT
  by_cases hb : badK seed
  · simp only [if_pos hb]
    rw [if_neg (by decide)]
  · simp only [if_neg hb, if_true]
    by_cases h0 : s = ⟨#[]⟩
    · rw [if_pos (toList_nil.2 h0), if_pos h0]
    · rw [if_neg (fun x => h0 (toList_nil.1 x)), if_neg h0]

/-! ### Whether an event may be -/
def keyedE (a : Int) : Prop := a = 2 ∨ a = 3
instance (a : Int) : Decidable (keyedE a) := by unfold keyedE; infer_instance
def mayP (a b : Int) (s t : ByteArray) : Prop :=
  (1 ≤ a ∧ a ≤ 5 ∧ 1 ≤ b ∧ b ≤ 32) ∧ if keyedE a then 1 ≤ s.size ∧ s.size ≤ 32 ∧ t.size ≤ 32 ∧ (a = 2 ∨ t ≠ ⟨#[]⟩) else s = ⟨#[]⟩ ∧ t = ⟨#[]⟩
instance (a b : Int) (s t : ByteArray) : Decidable (mayP a b s t) := by unfold mayP; infer_instance
theorem beq_nil (s : ByteArray) : (s.toList == ([] : List UInt8)) = decide (s = ⟨#[]⟩) := by
  rw [Bool.eq_iff_iff]
  simp [toList_nil]
theorem bne_nil (s : ByteArray) : (s.toList != ([] : List UInt8)) = decide (s ≠ ⟨#[]⟩) := by
  rw [bne, beq_nil]
  simp
theorem mayK {a b : Int} {s t : ByteArray} (h1 : 1 ≤ a ∧ a ≤ 5 ∧ 1 ≤ b ∧ b ≤ 32) (hk : keyedE a) : mayP a b s t ↔ (1 ≤ s.size ∧ s.size ≤ 32 ∧ t.size ≤ 32 ∧ (a = 2 ∨ t ≠ ⟨#[]⟩)) := by
  unfold mayP
  rw [if_pos hk]
  exact ⟨fun h => h.2, fun h => ⟨h1, h⟩⟩
theorem mayN {a b : Int} {s t : ByteArray} (h1 : 1 ≤ a ∧ a ≤ 5 ∧ 1 ≤ b ∧ b ≤ 32) (hk : ¬ keyedE a) : mayP a b s t ↔ (s = ⟨#[]⟩ ∧ t = ⟨#[]⟩) := by
  unfold mayP
  rw [if_neg hk]
  exact ⟨fun h => h.2, fun h => ⟨h1, h⟩⟩
theorem ekeyed_f (a : Int) : event_keyed.f a = some (decide (keyedE a)) := by
  unfold event_keyed.f
  by_cases h : a = 2
  · rw [if_pos h, decide_eq_true (show keyedE a from .inl h)]
  · rw [if_neg h]
    exact congrArg some (decide_eq_decide.2 (show a = 3 ↔ keyedE a from ⟨.inr, fun x => x.resolve_left h⟩))
theorem may_tail (k : Nat) (a b : Int) (s t : ByteArray) (h1 : 1 ≤ a ∧ a ≤ 5 ∧ 1 ≤ b ∧ b ≤ 32) : event_May.j1 (k + 1) false a b s t a b ⟨#[]⟩ ⟨#[]⟩ = some (decide (mayP a b s t)) := by
  simp only [event_May.j1, Bool.false_eq_true, if_false, ekeyed_f, Option.bind_some]
  by_cases hk : keyedE a
  · rw [decide_eq_true hk, if_pos rfl, decide_eq_decide.2 (mayK h1 hk)]
    by_cases c1 : (s.size : Int) ≥ 1
    · rw [if_pos c1]
      by_cases c2 : (s.size : Int) ≤ 32
      · rw [if_pos c2]
        by_cases c3 : (t.size : Int) ≤ 32
        · rw [if_pos c3]
          by_cases h2 : a = 2
          · rw [if_pos h2, decide_eq_true ⟨by omega, by omega, by omega, .inl h2⟩]
          · rw [if_neg h2, bne_nil]
            exact congrArg some (decide_eq_decide.2 ⟨fun h => ⟨by omega, by omega, by omega, .inr h⟩, fun h => h.2.2.2.resolve_left h2⟩)
        · rw [if_neg c3, decide_eq_false (fun h => c3 (by omega))]
      · rw [if_neg c2, decide_eq_false (fun h => c2 (by omega))]
    · rw [if_neg c1, decide_eq_false (fun h => c1 (by omega))]
  · have e : decide (mayP a b s t) = decide (s = ⟨#[]⟩ ∧ t = ⟨#[]⟩) := decide_eq_decide.2 (mayN h1 hk)
    rw [decide_eq_false hk, if_neg (by decide), e]
    rw [show ((⟨#[]⟩ : ByteArray).toList) = ([] : List UInt8) from toList_nil.2 rfl, beq_nil, beq_nil]
    simp
theorem may_f (a b : Int) (s t : ByteArray) : Ev (fun k => event_May.f k a b s t) (decide (mayP a b s t)) := by
  refine ⟨2, fun k hk => ?_⟩
  obtain ⟨k, rfl⟩ : ∃ j, k = j + 2 := ⟨k - 2, by omega⟩
  show event_May.f (k + 2) a b s t = _
  unfold event_May.f
  by_cases h1 : a < 1
  · rw [if_pos h1, decide_eq_false (fun h => by have := h.1; omega)]
    simp only [event_May.j0, if_true]
  rw [if_neg h1]
  by_cases h2 : a > 5
  · rw [decide_eq_true h2, decide_eq_false (fun h => by have := h.1; omega)]
    simp only [event_May.j0, if_true]
  rw [decide_eq_false h2]
  by_cases h3 : b < 1
  · rw [decide_eq_false (fun h => by have := h.1; omega)]
    simp only [event_May.j0, event_May.j1, if_pos h3, if_true, Bool.false_eq_true, if_false]
  by_cases h4 : b > 32
  · rw [decide_eq_false (fun h => by have := h.1; omega)]
    simp only [event_May.j0, event_May.j1, if_neg h3, decide_eq_true h4, if_true, Bool.false_eq_true, if_false]
  simp only [event_May.j0, if_neg h3, decide_eq_false h4, Bool.false_eq_true, if_false]
  exact may_tail k a b s t (by omega)
theorem rmay_tail (k : Nat) (a b : Int) (s t : ByteArray) (h1 : 1 ≤ a ∧ a ≤ 5 ∧ 1 ≤ b ∧ b ≤ 32) : cartoucheref06_May.j0 (k + 2) false a b s t = some (decide (mayP a b s t)) := by
  simp only [cartoucheref06_May.j0, Bool.false_eq_true, if_false]
  have hkey : keyedE a → cartoucheref06_May.j1 (k + 1) false a b s t = some (decide (mayP a b s t)) := fun hk => by
    simp only [cartoucheref06_May.j1, Bool.false_eq_true, if_false]
    rw [decide_eq_decide.2 (mayK h1 hk)]
    by_cases c1 : (s.size : Int) < 1
    · rw [if_pos c1, decide_eq_false (fun h => by omega)]
    rw [if_neg c1]
    by_cases c2 : (s.size : Int) > 32
    · rw [if_pos c2, decide_eq_false (fun h => by omega)]
    rw [if_neg c2]
    by_cases c3 : (t.size : Int) > 32
    · rw [if_pos c3, decide_eq_false (fun h => by omega)]
    rw [if_neg c3]
    by_cases h2 : a = 2
    · rw [if_pos h2, decide_eq_true ⟨by omega, by omega, by omega, .inl h2⟩]
    · rw [if_neg h2]
      refine congrArg some (decide_eq_decide.2 ⟨fun h => ⟨by omega, by omega, by omega, .inr (fun e => by rw [← size_nil] at e; omega)⟩, fun h => ?_⟩)
      have := h.2.2.2.resolve_left h2
      rw [ne_eq, ← size_nil] at this
      omega
  by_cases h2 : a = 2
  · rw [if_pos h2]
    exact hkey (.inl h2)
  · rw [if_neg h2]
    by_cases h3 : a = 3
    · rw [show (a != 3) = false by simpa using h3]
      exact hkey (.inr h3)
    · have e : decide (mayP a b s t) = decide (s = ⟨#[]⟩ ∧ t = ⟨#[]⟩) := decide_eq_decide.2 (mayN h1 (fun h => h.elim h2 h3))
      rw [show (a != 3) = true by simpa using h3, e]
      simp only [cartoucheref06_May.j1, if_true]
      by_cases c : s = ⟨#[]⟩
      · rw [if_pos (toList_nil.2 c), beq_nil]
        simp [c]
      · rw [if_neg (fun x => c (toList_nil.1 x)), decide_eq_false (fun h => c h.1)]
theorem rmay_f (a b : Int) (s t : ByteArray) : Ev (fun k => cartoucheref06_May.f k a b s t) (decide (mayP a b s t)) := by
  refine ⟨2, fun k hk => ?_⟩
  obtain ⟨k, rfl⟩ : ∃ j, k = j + 2 := ⟨k - 2, by omega⟩
  show cartoucheref06_May.f (k + 2) a b s t = _
  unfold cartoucheref06_May.f
  have ht : cartoucheref06_May.j0 (k + 2) true a b s t = some false := by simp only [cartoucheref06_May.j0, if_true]
  by_cases h1 : a < 1
  · rw [if_pos h1, decide_eq_false (fun h => by have := h.1; omega), ht]
  rw [if_neg h1]
  by_cases h2 : a > 5
  · rw [if_pos h2, decide_eq_false (fun h => by have := h.1; omega), ht]
  rw [if_neg h2]
  by_cases h3 : b < 1
  · rw [if_pos h3, decide_eq_false (fun h => by have := h.1; omega), ht]
  rw [if_neg h3]
  by_cases h4 : b > 32
  · rw [decide_eq_true h4, decide_eq_false (fun h => by have := h.1; omega), ht]
  rw [decide_eq_false h4]
  exact rmay_tail k a b s t (by omega)

/-! ### One event with tags -/
def oneP (seed : ByteArray) (a b : Int) (s t : ByteArray) : Prop := ¬ badK seed ∧ mayP a b s t
instance (seed : ByteArray) (a b : Int) (s t : ByteArray) : Decidable (oneP seed a b s t) := by unfold oneP; infer_instance
def oneR (seed : ByteArray) (a b : Int) (s t : ByteArray) : Int × Int × ByteArray × ByteArray × Int :=
  if oneP seed a b s t then (if keyedE a then (a, b, keyT seed s, valT seed t, 0) else (a, b, s, t, 0)) else (0, 0, ⟨#[]⟩, ⟨#[]⟩, 1)
theorem keyed_f (a b : Int) (s t : ByteArray) : redact_keyed.f a b s t = some (decide (keyedE a)) := by
  unfold redact_keyed.f
  by_cases h : a = 2
  · rw [if_pos h, decide_eq_true (show keyedE a from .inl h)]
  · rw [if_neg h]
    exact congrArg some (decide_eq_decide.2 (show a = 3 ↔ keyedE a from ⟨.inr, fun x => x.resolve_left h⟩))
theorem oneR_K {seed : ByteArray} {a b : Int} {s t : ByteArray} (hb : ¬ badK seed) (hm : mayP a b s t) (hk : keyedE a) : oneR seed a b s t = (a, b, keyT seed s, valT seed t, 0) := by
  unfold oneR
  rw [if_pos (show oneP seed a b s t from ⟨hb, hm⟩), if_pos hk]
theorem oneR_N {seed : ByteArray} {a b : Int} {s t : ByteArray} (hb : ¬ badK seed) (hm : mayP a b s t) (hk : ¬ keyedE a) : oneR seed a b s t = (a, b, s, t, 0) := by
  unfold oneR
  rw [if_pos (show oneP seed a b s t from ⟨hb, hm⟩), if_neg hk]
theorem oneR_no {seed : ByteArray} {a b : Int} {s t : ByteArray} (h : ¬ oneP seed a b s t) : oneR seed a b s t = (0, 0, ⟨#[]⟩, ⟨#[]⟩, 1) := by
  unfold oneR
  rw [if_neg h]
theorem one_f (seed : ByteArray) (a b : Int) (s t : ByteArray) (hs : s.size ≤ 140737488351232) (ht : t.size ≤ 140737488351232) : Ev (fun k => redact_One.f k seed a b s t) (oneR seed a b s t) := by
  unfold redact_One.f
  simp only [key_f seed s hs, val_f seed t ht, Option.bind_some]
  unfold keyR valR
  by_cases hb : badK seed
  · simp only [if_pos hb, if_neg (show ¬ (1 : Int) = 0 by decide)]
    rw [oneR_no (fun h => h.1 hb)]
    refine Ev.step (f := fun _ => some _) (fun k => ?_) (Ev.now _)
    simp only [redact_One.j0, if_true]
  · simp only [if_neg hb, if_true]
    refine Ev.bind (may_f a b s t) ?_
    refine Ev.step (f := fun _ => some _) (fun k => ?_) (Ev.now _)
    simp only [redact_One.j0]
    by_cases hm : mayP a b s t
    · simp only [decide_eq_true hm, Bool.not_true, Bool.false_eq_true, if_false, keyed_f, Option.bind_some]
      by_cases hk : keyedE a
      · rw [decide_eq_true hk, if_pos rfl, oneR_K hb hm hk]
      · rw [decide_eq_false hk, if_neg (by decide), oneR_N hb hm hk]
    · simp only [decide_eq_false hm, Bool.not_false, if_true]
      rw [oneR_no (fun h => hm h.2)]
theorem rone_f (seed : ByteArray) (a b : Int) (s t : ByteArray) (hs : s.size ≤ 140737488351232) (ht : t.size ≤ 140737488351232) : Ev (fun k => cartoucheref07_One.f k seed a b s t) (oneR seed a b s t) := by
  unfold cartoucheref07_One.f
  refine Ev.bind (rmay_f a b s t) ?_
  have hno : Ev (fun k => cartoucheref07_One.j0 k seed true a b s t) (0, 0, ⟨#[]⟩, ⟨#[]⟩, 1) := by
    refine Ev.step (f := fun _ => some _) (fun k => ?_) (Ev.now _)
    simp only [cartoucheref07_One.j0, if_true]
  by_cases hm : mayP a b s t
  · simp only [decide_eq_true hm, if_true]
    by_cases hb : badK seed
    · rw [oneR_no (fun h => h.1 hb)]
      rcases hb with hb | hb
      · simp only [if_pos (show (seed.size : Int) < 1 by omega)]
        exact hno
      · simp only [if_neg (show ¬ (seed.size : Int) < 1 by omega), decide_eq_true (show (seed.size : Int) > 32 by omega)]
        exact hno
    · have hb' : ¬ (seed.size = 0 ∨ 32 < seed.size) := hb
      simp only [if_neg (show ¬ (seed.size : Int) < 1 by omega), decide_eq_false (show ¬ (seed.size : Int) > 32 by omega)]
      refine ⟨2, fun k hk => ?_⟩
      obtain ⟨k, rfl⟩ : ∃ j, k = j + 2 := ⟨k - 2, by omega⟩
      have hy : keyedE a → cartoucheref07_One.j1 (k + 1) seed true a b s t = some (oneR seed a b s t) := fun hk => by
        simp only [cartoucheref07_One.j1, if_true, rkey_f seed s hs, rval_f seed t ht, Option.bind_some]
        rw [oneR_K hb hm hk]
        unfold keyR valR
        simp only [if_neg hb]
      show cartoucheref07_One.j0 (k + 2) seed false a b s t = _
      simp only [cartoucheref07_One.j0, Bool.false_eq_true, if_false]
      by_cases h2 : a = 2
      · rw [if_pos h2]
        exact hy (.inl h2)
      · by_cases h3 : a = 3
        · rw [if_neg h2, show (a == 3) = true by simpa using h3]
          exact hy (.inr h3)
        · rw [if_neg h2, show (a == 3) = false by simpa using h3, oneR_N hb hm (fun h => h.elim h2 h3)]
          simp only [cartoucheref07_One.j1, Bool.false_eq_true, if_false]
  · simp only [decide_eq_false hm, Bool.false_eq_true, if_false]
    rw [oneR_no (fun h => hm h.2)]
    exact hno
end Go.Proofs.YtbckobokiioeaaaDoor
