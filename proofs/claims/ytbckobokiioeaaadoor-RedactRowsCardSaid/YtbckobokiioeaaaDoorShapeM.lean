/- SHAPES OF HISTORIES, IN PLAIN LEAN: the names of a row of texts, by the first place that each has. -/
import Derived.Test.YtbckobokiioeaaaDoorBase
set_option linter.unusedVariables false
set_option linter.unusedSimpArgs false
namespace Go.Proofs.YtbckobokiioeaaaDoor.SM

/-- The first place of a text in a row. -/
def firstOf (s : ByteArray) : List ByteArray → Nat
  | [] => 0
  | k :: ks => if k = s then 0 else firstOf s ks + 1
theorem firstOf_lt {s : ByteArray} : ∀ {ks : List ByteArray}, s ∈ ks → firstOf s ks < ks.length
  | k :: ks, h => by
    unfold firstOf
    by_cases e : k = s
    · rw [if_pos e]; simp
    · rw [if_neg e]
      have := firstOf_lt ((List.mem_cons.1 h).resolve_left (fun x => e x.symm))
      simp; omega
theorem firstOf_get {s : ByteArray} : ∀ {ks : List ByteArray}, s ∈ ks → ks[firstOf s ks]? = some s
  | k :: ks, h => by
    unfold firstOf
    by_cases e : k = s
    · rw [if_pos e, e]; rfl
    · rw [if_neg e, List.getElem?_cons_succ]
      exact firstOf_get ((List.mem_cons.1 h).resolve_left (fun x => e x.symm))
theorem firstOf_not {s : ByteArray} : ∀ {ks : List ByteArray}, s ∉ ks → firstOf s ks = ks.length
  | [], _ => rfl
  | k :: ks, h => by
    unfold firstOf
    rw [if_neg (fun e => h (by simp [e])), firstOf_not (fun x => h (List.mem_cons_of_mem _ x))]
    rfl
theorem firstOf_inj {s t : ByteArray} {ks : List ByteArray} (hs : s ∈ ks) (ht : t ∈ ks) (h : firstOf s ks = firstOf t ks) : s = t := by
  have h1 := firstOf_get hs
  rw [h, firstOf_get ht] at h1
  exact (Option.some.inj h1).symm
theorem firstOf_append {s : ByteArray} (x : List ByteArray) : ∀ {ks : List ByteArray}, s ∈ ks → firstOf s (ks ++ x) = firstOf s ks
  | k :: ks, h => by
    rw [List.cons_append]
    unfold firstOf
    by_cases e : k = s
    · rw [if_pos e, if_pos e]
    · rw [if_neg e, if_neg e, firstOf_append x ((List.mem_cons.1 h).resolve_left (fun x => e x.symm))]
theorem firstOf_map (f : ByteArray → ByteArray) (s : ByteArray) : ∀ (ks : List ByteArray), (∀ t ∈ ks, f t = f s → t = s) → firstOf (f s) (ks.map f) = firstOf s ks
  | [], _ => rfl
  | k :: ks, h => by
    rw [List.map_cons]
    unfold firstOf
    rw [firstOf_map f s ks (fun t ht => h t (List.mem_cons_of_mem _ ht))]
    by_cases e : k = s
    · rw [if_pos e, if_pos (by rw [e])]
    · rw [if_neg e, if_neg (fun x => e (h k (by simp) x))]

section
variable (nm : Nat → ByteArray)
/-- The name of a text of a row. -/
def nameL (ks : List ByteArray) (s : ByteArray) : ByteArray := if s = ByteArray.empty then ByteArray.empty else nm (firstOf s ks)
def colL (ks : List ByteArray) : List ByteArray := ks.map (nameL nm ks)
theorem col_length (ks : List ByteArray) : (colL nm ks).length = ks.length := by simp [colL]
/-- Other names: the same shape. -/
theorem col_map (f : ByteArray → ByteArray) (ks : List ByteArray) (h0 : ∀ s, f s = ByteArray.empty ↔ s = ByteArray.empty) (hi : ∀ s ∈ ks, ∀ t ∈ ks, f t = f s → t = s) : colL nm (ks.map f) = colL nm ks := by
  unfold colL
  rw [List.map_map]
  refine List.map_congr_left fun s hs => ?_
  show nameL nm (ks.map f) (f s) = nameL nm ks s
  unfold nameL
  by_cases e : s = ByteArray.empty
  · rw [if_pos ((h0 s).2 e), if_pos e]
  · rw [if_neg (fun x => e ((h0 s).1 x)), if_neg e, firstOf_map f s ks (hi s hs)]
variable (hnm : ∀ i j, nm i = nm j → i = j) (hne : ∀ i, nm i ≠ ByteArray.empty)
include hnm hne
/-- A shape's shape is itself. -/
theorem col_col (ks : List ByteArray) : colL nm (colL nm ks) = colL nm ks := by
  have h0 : ∀ s, nameL nm ks s = ByteArray.empty ↔ s = ByteArray.empty := fun s => by
    unfold nameL
    by_cases e : s = ByteArray.empty
    · rw [if_pos e]; exact ⟨fun _ => e, fun _ => rfl⟩
    · rw [if_neg e]; exact ⟨fun x => absurd x (hne _), fun x => absurd x e⟩
  refine col_map nm (nameL nm ks) ks h0 fun s hs t ht h => ?_
  by_cases e : s = ByteArray.empty
  · have := (h0 t).1 (h.trans ((h0 s).2 e))
    rw [this, e]
  · have e2 : t ≠ ByteArray.empty := fun x => e ((h0 s).1 (h.symm.trans ((h0 t).2 x)))
    unfold nameL at h
    rw [if_neg e, if_neg e2] at h
    exact firstOf_inj ht hs (hnm _ _ h)
omit hnm hne
/-- The shape of a beginning. -/
theorem col_take (ks : List ByteArray) (n : Nat) : colL nm (ks.take n) = (colL nm ks).take n := by
  unfold colL
  rw [← List.map_take]
  refine List.map_congr_left fun s hs => ?_
  unfold nameL
  have h := firstOf_append (s := s) (ks.drop n) hs
  rw [List.take_append_drop] at h
  rw [h]
/-- What is known behind a beginning: one more text. -/
theorem name_step (ks : List ByteArray) (i : Nat) (s : ByteArray) (h : ks[i]? = some s) (hn : s ∉ ks.take i) : firstOf s ks = i := by
  obtain ⟨hi, e⟩ := List.getElem?_eq_some_iff.1 h
  have h2 : ks = ks.take i ++ s :: ks.drop (i + 1) := by
    rw [← e, List.getElem_cons_drop, List.take_append_drop]
  have : ∀ (a b : List ByteArray), s ∉ a → firstOf s (a ++ s :: b) = a.length := by
    intro a b ha
    induction a with
    | nil => simp [firstOf]
    | cons x a ih =>
      rw [List.cons_append]
      unfold firstOf
      rw [if_neg (fun e => ha (by simp [e])), ih (fun x => ha (List.mem_cons_of_mem _ x))]
      rfl
  rw [h2, this _ _ hn]
  simp
  omega
end
end Go.Proofs.YtbckobokiioeaaaDoor.SM
