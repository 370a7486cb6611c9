/- Twins: what a row without twins so far means for the search (the loop's invariant in redact.twins). -/
import Derived.Test.YtbckobokiioeaaaDoorRedTwinsM
set_option linter.unusedVariables false
set_option linter.unusedSimpArgs false
namespace Go.Proofs.YtbckobokiioeaaaDoor
open Go.RowKit Go.Proofs.YtbckobokiioeaaaDoor.Q Go.Proofs.YtbckobokiioeaaaDoor.R Go.Proofs.YtbckobokiioeaaaDoorW.PrintWords

/-- The search has come to nothing yet. -/
def Clean (seed : ByteArray) (pre : List ByteArray) : Prop := ∀ rest, twinU seed [] (pre ++ rest) = twinU seed pre rest
theorem clean_nil (seed : ByteArray) : Clean seed [] := fun rest => rfl
theorem twinU_none {seed : ByteArray} {pre : List ByteArray} {s : ByteArray} (h : pre.find? (fun y => decide (hitP seed y s)) = none) (r : List ByteArray) : twinU seed pre (s :: r) = twinU seed (pre ++ [s]) r := by
  show (match pre.find? (fun y => decide (hitP seed y s)) with | some y => (y, s, true) | none => twinU seed (pre ++ [s]) r) = _
  rw [h]
theorem twinU_some {seed : ByteArray} {pre : List ByteArray} {s y : ByteArray} (h : pre.find? (fun y => decide (hitP seed y s)) = some y) (r : List ByteArray) : twinU seed pre (s :: r) = (y, s, true) := by
  show (match pre.find? (fun y => decide (hitP seed y s)) with | some y => (y, s, true) | none => twinU seed (pre ++ [s]) r) = _
  rw [h]
theorem Clean.snoc {seed : ByteArray} {pre : List ByteArray} {s : ByteArray} (h : Clean seed pre) (hn : pre.find? (fun y => decide (hitP seed y s)) = none) : Clean seed (pre ++ [s]) := fun rest => by
  have := h (s :: rest)
  rw [twinU_none hn] at this
  rw [← this, List.append_assoc]
  rfl
/-- The end without twins. -/
theorem Clean.done {seed : ByteArray} {pre : List ByteArray} (h : Clean seed pre) : twinU seed [] pre = (⟨#[]⟩, ⟨#[]⟩, false) := by
  have := h []
  rw [List.append_nil] at this
  exact this
/-- A twin comes: whatever follows. -/
theorem Clean.hit {seed : ByteArray} {pre L : List ByteArray} {s y : ByteArray} (h : Clean seed pre) (hp : pre ++ [s] <+: L) (hy : pre.find? (fun y => decide (hitP seed y s)) = some y) : twinU seed [] L = (y, s, true) := by
  obtain ⟨r, rfl⟩ := hp
  rw [List.append_assoc, h]
  exact twinU_some hy r
/-- The search over places: the first place with one's tag and another text. -/
theorem find_place (seed s : ByteArray) (pre : List ByteArray) (k : Nat) (y : ByteArray) (hk : pre[k]? = some y) (hh : hitP seed y s) (hb : ∀ j z, j < k → pre[j]? = some z → ¬ hitP seed z s) : pre.find? (fun y => decide (hitP seed y s)) = some y := by
  induction pre generalizing k with
  | nil => simp at hk
  | cons x r ih =>
    cases k with
    | zero =>
      obtain rfl : x = y := by simpa using hk
      rw [List.find?_cons_of_pos (by simpa using hh)]
    | succ k =>
      rw [List.find?_cons_of_neg (by simpa using hb 0 x (by omega) rfl)]
      exact ih k (by simpa using hk) (fun j z hj hz => hb (j + 1) z (by omega) (by simpa using hz))
theorem find_no (seed s : ByteArray) (pre : List ByteArray) (hb : ∀ j z, j < pre.length → pre[j]? = some z → ¬ hitP seed z s) : pre.find? (fun y => decide (hitP seed y s)) = none := by
  rw [List.find?_eq_none]
  intro z hz
  obtain ⟨j, hj, e⟩ := List.getElem_of_mem hz
  simpa using hb j z hj (by rw [List.getElem?_eq_getElem hj, e])
end Go.Proofs.YtbckobokiioeaaaDoor
