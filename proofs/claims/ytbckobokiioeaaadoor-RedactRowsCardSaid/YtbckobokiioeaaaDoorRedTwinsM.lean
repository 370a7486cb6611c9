/- Twins: two unlike inputs of one tag: the document's search, in plain Lean. -/
import Derived.Test.YtbckobokiioeaaaDoorRedShapeL
set_option linter.unusedVariables false
set_option linter.unusedSimpArgs false
namespace Go.Proofs.YtbckobokiioeaaaDoor
open Go.RowKit Go.Proofs.YtbckobokiioeaaaDoor.Q Go.Proofs.YtbckobokiioeaaaDoor.R Go.Proofs.YtbckobokiioeaaaDoorW.PrintWords

def hitP (seed y s : ByteArray) : Prop := y ≠ ⟨#[]⟩ ∧ s ≠ ⟨#[]⟩ ∧ y ≠ s ∧ keyedB seed y = keyedB seed s
instance (seed y s : ByteArray) : Decidable (hitP seed y s) := by unfold hitP; infer_instance
/-- The first text that has a twin ahead of it, with the first of these; an empty text doesn't count. -/
def twinU (seed : ByteArray) : List ByteArray → List ByteArray → ByteArray × ByteArray × Bool
  | _, [] => (⟨#[]⟩, ⟨#[]⟩, false)
  | had, s :: r => match had.find? (fun y => decide (hitP seed y s)) with
    | some y => (y, s, true)
    | none => twinU seed (had ++ [s]) r
theorem find_filter (seed s : ByteArray) : ∀ l : List ByteArray, l.find? (fun y => decide (hitP seed y s)) = (l.filter (fun y => decide (y ≠ ⟨#[]⟩))).find? (fun y => decide (hitP seed y s))
  | [] => rfl
  | y :: l => by
    by_cases h : y = ⟨#[]⟩
    · have hn : ¬ hitP seed y s := fun x => x.1 h
      rw [List.find?_cons_of_neg (by simpa using hn), List.filter_cons_of_neg (by simpa using h)]
      exact find_filter seed s l
    · rw [List.filter_cons_of_pos (by simpa using h)]
      by_cases hh : hitP seed y s
      · rw [List.find?_cons_of_pos (by simpa using hh), List.find?_cons_of_pos (by simpa using hh)]
      · rw [List.find?_cons_of_neg (by simpa using hh), List.find?_cons_of_neg (by simpa using hh)]
        exact find_filter seed s l
/-- Empty texts may be left out. -/
theorem twinU_filter (seed : ByteArray) : ∀ (r had : List ByteArray), twinU seed had r = twinU seed (had.filter (fun y => decide (y ≠ ⟨#[]⟩))) (r.filter (fun y => decide (y ≠ ⟨#[]⟩)))
  | [], had => rfl
  | s :: r, had => by
    by_cases h : s = ⟨#[]⟩
    · have hn : had.find? (fun y => decide (hitP seed y s)) = none := by
        rw [List.find?_eq_none]
        intro y _
        simpa using fun x : hitP seed y s => x.2.1 h
      have e := twinU_filter seed r (had ++ [s])
      rw [List.filter_append, List.filter_cons_of_neg (a := s) (by simpa using h), List.filter_nil, List.append_nil] at e
      rw [List.filter_cons_of_neg (by simpa using h), ← e]
      show (match had.find? (fun y => decide (hitP seed y s)) with | some y => (y, s, true) | none => twinU seed (had ++ [s]) r) = _
      rw [hn]
    · have e := twinU_filter seed r (had ++ [s])
      rw [List.filter_append, List.filter_cons_of_pos (a := s) (by simpa using h), List.filter_nil] at e
      rw [List.filter_cons_of_pos (by simpa using h)]
      show (match had.find? (fun y => decide (hitP seed y s)) with | some y => (y, s, true) | none => twinU seed (had ++ [s]) r) = (match (had.filter (fun y => decide (y ≠ ⟨#[]⟩))).find? (fun y => decide (hitP seed y s)) with | some y => (y, s, true) | none => twinU seed ((had.filter (fun y => decide (y ≠ ⟨#[]⟩))) ++ [s]) (r.filter (fun y => decide (y ≠ ⟨#[]⟩))))
      rw [find_filter seed s had, e]
theorem rdB_get (l : List ByteArray) (i : Nat) (h : i < l.length) : l[i]? = some (rdOf ByteArray.empty l (i : Int)) := by
  unfold rdOf
  rw [Int.toNat_natCast, List.getD_eq_getElem?_getD, List.getElem?_eq_getElem h]
  rfl
section
variable (seed : ByteArray) (l : List ByteArray) (hb : ¬ badK seed) (hl : l.length ≤ 9223372036854775806) (hs : ∀ s ∈ l, s.size ≤ 562949953421248)
include hb hs
theorem keyed_at (i : Nat) (hi : i < l.length) : cartoucheref02_Keyed.f seed (rdOf ByteArray.empty l (i : Int)) = some (keyedB seed (rdOf ByteArray.empty l (i : Int)), 0) := by
  have := hs _ (List.mem_of_getElem? (rdB_get l i hi))
  unfold cartoucheref02_Keyed.f keyedF
  rw [if_pos this]
  exact if_neg hb
include hl
theorem twins_l1 (i : Nat) (hi : i < l.length) (s : ByteArray) (he : rdOf ByteArray.empty l (i : Int) = s) (R0 : ByteArray × ByteArray × Bool) (h0 : Ev (fun n => cartoucheref07_twins.l0 n seed l ((i + 1 : Nat) : Int)) R0) :
    ∀ (d k : Nat), k + d = i → Ev (fun n => cartoucheref07_twins.l1 n seed l (i : Int) (k : Int)) (match ((l.take i).drop k).find? (fun y => decide (hitP seed y s)) with | some y => (y, s, true) | none => R0)
  | 0, k, hk => by
    obtain rfl : k = i := by omega
    have e : (l.take k).drop k = [] := by rw [List.drop_eq_nil_iff, List.length_take]; omega
    rw [e]
    refine Ev.step (fun n => ?_) h0
    simp only [cartoucheref07_twins.l1]
    rw [if_neg (by omega), wrap_id (by omega) (by omega)]
    rfl
  | d + 1, k, hk => by
    have ih := twins_l1 i hi s he R0 h0 d (k + 1) (by omega)
    have hy := rdB_get l k (by omega)
    obtain ⟨y, hye⟩ : ∃ y, y = rdOf ByteArray.empty l (k : Int) := ⟨_, rfl⟩
    rw [← hye] at hy
    have e : (l.take i).drop k = y :: (l.take i).drop (k + 1) := by
      have h1 : (l.take i)[k]? = some y := by rw [List.getElem?_take, if_pos (by omega)]; exact hy
      obtain ⟨h2, h3⟩ := List.getElem?_eq_some_iff.1 h1
      rw [List.drop_eq_getElem_cons h2, h3]
    rw [e]
    have hback : ∀ n, cartoucheref07_twins.j2 (n + 1) seed l (i : Int) (k : Int) true = cartoucheref07_twins.l1 n seed l (i : Int) ((k + 1 : Nat) : Int) := fun n => by
      simp only [cartoucheref07_twins.j2, if_true]
      rw [wrap_id (by omega) (by omega)]
      rfl
    have hno : Ev (fun n => cartoucheref07_twins.j2 n seed l (i : Int) (k : Int) true) (match ((l.take i).drop (k + 1)).find? (fun y => decide (hitP seed y s)) with | some y => (y, s, true) | none => R0) := Ev.step hback ih
    by_cases a : s = ⟨#[]⟩
    · rw [List.find?_cons_of_neg (by simpa using fun x : hitP seed y s => x.2.1 a)]
      refine Ev.step (fun n => ?_) hno
      simp only [cartoucheref07_twins.l1]
      rw [if_pos (by omega), if_pos (by omega), if_pos (by omega), he, if_pos (toList_nil.2 a)]
    by_cases b : y = ⟨#[]⟩
    · rw [List.find?_cons_of_neg (by simpa using fun x : hitP seed y s => x.1 b)]
      refine Ev.step (fun n => ?_) hno
      simp only [cartoucheref07_twins.l1]
      rw [if_pos (by omega), if_pos (by omega), if_pos (by omega), he, if_neg (fun z => a (toList_nil.1 z)), if_pos (by omega), if_pos (by omega), ← hye, if_pos (toList_nil.2 b)]
    have hgo : ∀ n, cartoucheref07_twins.l1 (n + 1) seed l (i : Int) (k : Int) = cartoucheref07_twins.j2 n seed l (i : Int) (k : Int) (s.toList == y.toList) := fun n => by
      simp only [cartoucheref07_twins.l1]
      rw [if_pos (by omega), if_pos (by omega), if_pos (by omega), he, if_neg (fun z => a (toList_nil.1 z)), if_pos (by omega), if_pos (by omega), ← hye, if_neg (fun z => b (toList_nil.1 z))]
    refine Ev.step hgo ?_
    by_cases c : y = s
    · rw [List.find?_cons_of_neg (by simpa using fun x : hitP seed y s => x.2.2.1 c), show (s.toList == y.toList) = true by rw [c]; exact beq_self_eq_true _]
      exact hno
    · rw [show (s.toList == y.toList) = false from beq_eq_false_iff_ne.2 (fun z => c (toList_inj.1 z).symm)]
      have hk1 := keyed_at seed l hb hs i hi
      have hk2 := keyed_at seed l hb hs k (by omega)
      rw [he] at hk1
      rw [← hye] at hk2
      by_cases g : keyedB seed y = keyedB seed s
      · rw [List.find?_cons_of_pos (by simpa using (show hitP seed y s from ⟨b, a, c, g⟩))]
        refine Ev.step (f := fun _ => some (y, s, true)) (fun n => ?_) (Ev.now _)
        simp only [cartoucheref07_twins.j2, Bool.false_eq_true, if_false]
        rw [if_pos (by omega), if_pos (by omega), he, hk1]
        refine Eq.trans (Option.bind_some _ _) ?_
        rw [if_pos (by omega), if_pos (by omega), ← hye, hk2]
        refine Eq.trans (Option.bind_some _ _) ?_
        rw [if_pos (by rw [g])]
      · rw [List.find?_cons_of_neg (by simpa using fun x : hitP seed y s => g x.2.2.2)]
        refine Ev.step (fun n => ?_) ih
        simp only [cartoucheref07_twins.j2, Bool.false_eq_true, if_false]
        rw [if_pos (by omega), if_pos (by omega), he, hk1]
        refine Eq.trans (Option.bind_some _ _) ?_
        rw [if_pos (by omega), if_pos (by omega), ← hye, hk2]
        refine Eq.trans (Option.bind_some _ _) ?_
        rw [if_neg (fun z => g (toList_inj.1 z).symm), wrap_id (by omega) (by omega)]
        rfl
theorem twins_l0 : ∀ (d i : Nat), i + d = l.length → Ev (fun n => cartoucheref07_twins.l0 n seed l (i : Int)) (twinU seed (l.take i) (l.drop i))
  | 0, i, hi => by
    obtain rfl : i = l.length := by omega
    rw [List.drop_length]
    refine Ev.step (f := fun _ => some (⟨#[]⟩, ⟨#[]⟩, false)) (fun n => ?_) (Ev.now _)
    simp only [cartoucheref07_twins.l0]
    rw [if_neg (by omega)]
  | d + 1, i, hi => by
    have ih := twins_l0 d (i + 1) (by omega)
    have hs' := rdB_get l i (by omega)
    have h1 := twins_l1 seed l hb hl hs i (by omega) _ rfl _ ih i 0 (by omega)
    rw [List.drop_zero] at h1
    have e : l.drop i = rdOf ByteArray.empty l (i : Int) :: l.drop (i + 1) := by
      obtain ⟨h2, h3⟩ := List.getElem?_eq_some_iff.1 hs'
      rw [List.drop_eq_getElem_cons h2, h3]
    have e2 : l.take (i + 1) = l.take i ++ [rdOf ByteArray.empty l (i : Int)] := by rw [List.take_add_one, hs']; rfl
    rw [e2] at h1
    rw [e]
    refine Ev.step (fun n => ?_) h1
    simp only [cartoucheref07_twins.l0]
    rw [if_pos (by omega)]
    rfl
theorem rtwins_f : Ev (fun k => cartoucheref07_twins.f k seed l) (twinU seed [] l) := by
  have := twins_l0 seed l hb hl hs l.length 0 (by omega)
  exact this
end
end Go.Proofs.YtbckobokiioeaaaDoor
