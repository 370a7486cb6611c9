/- THE LAW RedactBegins, IN PLAIN LEAN: its printed function says true. -/
import Derived.Test.YtbckobokiioeaaaDoorRedL
import Derived.Test.YtbckobokiioeaaaDoorRLRedactBegins
set_option linter.unusedVariables false
set_option linter.unusedSimpArgs false
namespace Go.Proofs.YtbckobokiioeaaaDoor
open Go.RowKit Go.Proofs.YtbckobokiioeaaaDoor.Q Go.Proofs.YtbckobokiioeaaaDoor.R Go.Proofs.YtbckobokiioeaaaDoorW.PrintWords

theorem nameR_append {letter : ByteArray} {ks : List ByteArray} (r : List ByteArray) {s : ByteArray} (h : s ∈ ks) : nameR letter (ks ++ r) s = nameR letter ks s := by
  unfold nameR
  rw [SM.firstOf_append r h]
theorem shapeB_take (h : List Evt) (n : Nat) : shapeB (h.take n) = (shapeB h).take n := by
  unfold shapeB
  rw [← List.map_take]
  refine List.map_congr_left fun x hx => ?_
  have hk : x.f2 ∈ keysB (h.take n) := List.mem_map_of_mem hx
  have hv : x.f3 ∈ valsB (h.take n) := List.mem_map_of_mem hx
  have ek : keysB h = keysB (h.take n) ++ keysB (h.drop n) := by unfold keysB; rw [← List.map_append, List.take_append_drop]
  have ev : valsB h = valsB (h.take n) ++ valsB (h.drop n) := by unfold valsB; rw [← List.map_append, List.take_append_drop]
  unfold shapeE
  rw [ek, ev, nameR_append _ hk, nameR_append _ hv]
theorem RedactBegins_pure (h : List Evt) (n : Int) (hh : h.length * 48 ≤ 140737488351232 ∧ ∀ x ∈ h, (Lit.int .i64 x.f0).wf = true ∧ (Lit.int .i64 x.f1).wf = true ∧ x.f2.size ≤ 140737488351232 ∧ x.f3.size ≤ 140737488351232) (hn : (Lit.int .i64 n).wf = true) : ∃ k, cartouchelaw07_RedactBegins.f k h n = some true := by
  have hs : SmallE h := fun x hx => ⟨(hh.2 x hx).2.2.1, (hh.2 x hx).2.2.2⟩
  refine Ev.rounds (g := fun k => cartouchelaw07_RedactBegins.f k h n) ?_
  unfold cartouchelaw07_RedactBegins.f
  simp only [shown_f, few_f, Option.bind_some]
  have hno : Ev (fun k => cartouchelaw07_RedactBegins.j0 k h n true true) true := by
    refine Ev.step (f := fun _ => some true) (fun k => ?_) (Ev.now _)
    simp only [cartouchelaw07_RedactBegins.j0, if_true]
  by_cases hf : h.length ≤ 60
  · simp only [decide_eq_true hf, if_true]
    by_cases h0 : n < 0
    · simp only [if_pos h0]
      exact hno
    · simp only [if_neg h0]
      by_cases h1 : n > (h.length : Int)
      · simp only [decide_eq_true h1]
        exact hno
      · simp only [decide_eq_false h1]
        obtain ⟨m, rfl⟩ : ∃ m : Nat, n = (m : Int) := ⟨n.toNat, by omega⟩
        have ht : ∀ x ∈ h.take m, x.f2.size ≤ maxLen ∧ x.f3.size ≤ maxLen := fun x hx => hs.max x (List.mem_of_mem_take hx)
        have hsame := same_f (shapeB (h.take m)) ((shapeB h).take m) (by rw [shapeB_length, List.length_take]; omega) (shapeB_take h m)
        refine Ev.step (f := fun k => cartoucheref06_Same.f k (shapeB (h.take m)) ((shapeB h).take m)) (fun k => ?_) hsame
        simp only [cartouchelaw07_RedactBegins.j0, Bool.false_eq_true, if_false]
        rw [shape_f h (by omega) hs.max]
        refine Eq.trans (Option.bind_some _ _) ?_
        rw [if_pos (by rw [shapeB_length]), if_pos (by omega), if_pos (by omega), Int.toNat_natCast, shape_f (h.take m) (by rw [List.length_take]; omega) ht]
        refine Eq.trans (Option.bind_some _ _) ?_
        rw [if_pos (by rw [shapeB_length]; omega)]
        simp only [if_true]
        cases cartoucheref06_Same.f k (shapeB (h.take m)) ((shapeB h).take m) <;> rfl
  · simp only [decide_eq_false hf, Bool.false_eq_true, if_false]
    exact hno
end Go.Proofs.YtbckobokiioeaaaDoor
