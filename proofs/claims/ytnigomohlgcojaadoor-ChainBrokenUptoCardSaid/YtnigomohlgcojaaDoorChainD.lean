/- WHAT TWO ROWS OF ONE HEAD GIVE AWAY, IN PLAIN LEAN. -/
import Derived.Test.YtnigomohlgcojaaDoorChainS
import Derived.Test.YtnigomohlgcojaaDoorR8
set_option linter.unusedVariables false
set_option linter.unusedSimpArgs false
namespace Go.Proofs.YtnigomohlgcojaaDoor
open Go.RowKit Go.Proofs.YtnigomohlgcojaaDoor.Q Go.Proofs.YtnigomohlgcojaaDoorW.PrintWords

/-- Two rows of links from the last one on. -/
def dR : List Lk → List Lk → ByteArray × ByteArray × Bool
  | a :: x, b :: y => if (inputR a.f0 a.f1).1 = (inputR b.f0 b.f1).1 then dR x y
    else if sumB (inputR a.f0 a.f1).1 = sumB (inputR b.f0 b.f1).1 then ((inputR a.f0 a.f1).1, (inputR b.f0 b.f1).1, true) else (⟨#[]⟩, ⟨#[]⟩, false)
  | _, _ => (⟨#[]⟩, ⟨#[]⟩, false)
theorem inputR_size (p b : ByteArray) : (inputR p b).1.size ≤ 562949953421312 := by
  unfold inputR
  by_cases h : p.size ≤ 65535 ∧ b.size ≤ 65535
  · rw [if_pos h]
    have := inB_size p b
    show (inB p b).size ≤ _
    omega
  · rw [if_neg h]
    show 0 ≤ _
    omega
theorem rev_get (l : List Lk) (j : Nat) (h : j < l.length) : l.reverse.drop j = l.getD (l.length - 1 - j) z40 :: l.reverse.drop (j + 1) := by
  rw [dropT l.reverse j (by simpa using h), List.getD_eq_getElem?_getD, List.getElem?_reverse h, ← List.getD_eq_getElem?_getD]
theorem diff_l0 (x y : List Lk) (hx : x.length ≤ 4294967296) (hy : y.length ≤ 4294967296) : ∀ (d j : Nat), j + d = min x.length y.length →
    Ev (fun n => R.chain_Differ.l0 n x y ((min x.length y.length : Nat) : Int) (j : Int)) (dR (x.reverse.drop j) (y.reverse.drop j))
  | 0, j, hj => by
    have e : dR (x.reverse.drop j) (y.reverse.drop j) = (⟨#[]⟩, ⟨#[]⟩, false) := by
      by_cases h : x.length ≤ y.length
      · rw [List.drop_of_length_le (by rw [List.length_reverse]; omega)]
        rfl
      · rw [List.drop_of_length_le (l := y.reverse) (by rw [List.length_reverse]; omega)]
        cases x.reverse.drop j <;> rfl
    rw [e]
    refine Ev.step (f := fun _ => some _) (fun n => ?_) (Ev.now _)
    simp only [R.chain_Differ.l0]
    rw [if_neg (by omega)]
  | d + 1, j, hj => by
    have hjx : j < x.length := by omega
    have hjy : j < y.length := by omega
    have ih := diff_l0 x y hx hy d (j + 1) (by omega)
    have ex : wrap64 (wrap64 ((x.length : Int) - 1) - (j : Int)) = ((x.length - 1 - j : Nat) : Int) := by
      rw [wrap_id (x := (x.length : Int) - 1) (by omega) (by omega), wrap_id (by omega) (by omega)]
      omega
    have ey : wrap64 (wrap64 ((y.length : Int) - 1) - (j : Int)) = ((y.length - 1 - j : Nat) : Int) := by
      rw [wrap_id (x := (y.length : Int) - 1) (by omega) (by omega), wrap_id (by omega) (by omega)]
      omega
    rw [rev_get x j hjx, rev_get y j hjy]
    generalize hA : x.getD (x.length - 1 - j) z40 = A at *
    generalize hB : y.getD (y.length - 1 - j) z40 = B at *
    have hw : wrap64 ((j : Int) + 1) = ((j + 1 : Nat) : Int) := by rw [wrap_id (by omega) (by omega)]; rfl
    have start : ∀ n, R.chain_Differ.l0 (n + 1) x y ((min x.length y.length : Nat) : Int) (j : Int) = (if (inputR A.f0 A.f1).1 = (inputR B.f0 B.f1).1 then R.chain_Differ.l0 n x y ((min x.length y.length : Nat) : Int) ((j + 1 : Nat) : Int) else if sumB (inputR A.f0 A.f1).1 = sumB (inputR B.f0 B.f1).1 then some ((inputR A.f0 A.f1).1, (inputR B.f0 B.f1).1, true) else some (⟨#[]⟩, ⟨#[]⟩, false)) := fun n => by
      simp only [R.chain_Differ.l0]
      rw [ex, ey, if_pos (by omega), if_pos (by omega), if_pos (by omega), if_pos (by omega), if_pos (by omega), rdT_nat, rdT_nat, hA, hB, input_f, input_f, hw]
      simp only [Option.bind_some, toList_inj]
      unfold blake_Sum.f
      rw [sumF_eq _ (inputR_size _ _), sumF_eq _ (inputR_size _ _)]
      simp only [Option.bind_some, toList_inj]
    unfold dR
    by_cases h1 : (inputR A.f0 A.f1).1 = (inputR B.f0 B.f1).1
    · rw [if_pos h1]
      exact Ev.step (fun n => by rw [start, if_pos h1]) ih
    · rw [if_neg h1]
      refine Ev.step (f := fun _ => some _) (fun n => ?_) (Ev.now _)
      rw [start, if_neg h1]
      split <;> rfl
/-- What two rows give away. -/
def differR (a b : List ByteArray) : ByteArray × ByteArray × Bool :=
  if (linksR a).2 = 0 ∧ (linksR b).2 = 0 then dR (linksR a).1.reverse (linksR b).1.reverse else (⟨#[]⟩, ⟨#[]⟩, false)
theorem linksR_length (a : List ByteArray) : (linksR a).1.length ≤ a.length := by
  unfold linksR
  split
  · exact Nat.le_of_eq (linksL_length _ _)
  · exact Nat.zero_le _
theorem differ_f (a b : List ByteArray) (ha : a.length ≤ 200) (hb : b.length ≤ 200) : Ev (fun n => R.chain_Differ.f n a b) (differR a b) := by
  have hla := linksR_length a; have hlb := linksR_length b
  have bad : ∀ x y, Ev (fun n => R.chain_Differ.j0 n x y true) ((⟨#[]⟩ : ByteArray), (⟨#[]⟩ : ByteArray), false) := fun x y => by
    refine Ev.step (f := fun _ => some _) (fun n => ?_) (Ev.now _)
    simp only [R.chain_Differ.j0, if_true]
  unfold R.chain_Differ.f differR
  simp only [links_f a (by omega), links_f b (by omega), Option.bind_some]
  by_cases h1 : (linksR a).2 = 0
  · simp only [if_pos h1]
    by_cases h2 : (linksR b).2 = 0
    · rw [if_pos ⟨h1, h2⟩]
      simp only [show ((linksR b).2 != 0) = false by simp [h2]]
      have h := diff_l0 (linksR a).1 (linksR b).1 (by omega) (by omega) _ 0 (Nat.zero_add _)
      rw [List.drop_zero, List.drop_zero] at h
      refine Ev.step (fun n => ?_) h
      simp only [R.chain_Differ.j0, Bool.false_eq_true, if_false]
      have e : mn ((linksR a).1.length : Int) ((linksR b).1.length : Int) = ((min (linksR a).1.length (linksR b).1.length : Nat) : Int) := by
        unfold mn
        split <;> omega
      rw [e]
      rfl
    · rw [if_neg (fun h => h2 h.2)]
      simp only [show ((linksR b).2 != 0) = true from bne_iff_ne.mpr h2]
      exact bad _ _
  · simp only [if_neg h1]
    rw [if_neg (fun h => h1 h.1)]
    exact bad _ _
/-- What is given away are two unlike texts of one sum. -/
theorem dR_honest : ∀ x y, (dR x y).2.2 = true → (dR x y).1 ≠ (dR x y).2.1 ∧ sumB (dR x y).1 = sumB (dR x y).2.1 ∧ (dR x y).1.size ≤ 562949953421312 ∧ (dR x y).2.1.size ≤ 562949953421312
  | [], _, h => by cases h
  | _ :: _, [], h => by cases h
  | a :: x, b :: y, h => by
    unfold dR at h ⊢
    by_cases h1 : (inputR a.f0 a.f1).1 = (inputR b.f0 b.f1).1
    · simp only [if_pos h1] at h ⊢
      exact dR_honest x y h
    · simp only [if_neg h1] at h ⊢
      by_cases h2 : sumB (inputR a.f0 a.f1).1 = sumB (inputR b.f0 b.f1).1
      · simp only [if_pos h2] at h ⊢
        exact ⟨h1, h2, inputR_size _ _, inputR_size _ _⟩
      · simp only [if_neg h2] at h
        cases h
theorem differR_honest (a b : List ByteArray) (h : (differR a b).2.2 = true) : (differR a b).1 ≠ (differR a b).2.1 ∧ sumB (differR a b).1 = sumB (differR a b).2.1 ∧ (differR a b).1.size ≤ 562949953421312 ∧ (differR a b).2.1.size ≤ 562949953421312 := by
  unfold differR at h ⊢
  by_cases h1 : (linksR a).2 = 0 ∧ (linksR b).2 = 0
  · simp only [if_pos h1] at h ⊢
    exact dR_honest _ _ h
  · simp only [if_neg h1] at h
    cases h
end Go.Proofs.YtnigomohlgcojaaDoor
