/- THE LAW RedactAgain, IN PLAIN LEAN: its printed function says true. -/
import Derived.Test.YtbckobokiioeaaaDoorRedL
import Derived.Test.YtbckobokiioeaaaDoorRLRedactAgain
set_option linter.unusedVariables false
set_option linter.unusedSimpArgs false
namespace Go.Proofs.YtbckobokiioeaaaDoor
open Go.RowKit Go.Proofs.YtbckobokiioeaaaDoor.Q Go.Proofs.YtbckobokiioeaaaDoor.R Go.Proofs.YtbckobokiioeaaaDoorW.PrintWords

theorem oneE_ok {seed : ByteArray} {x : Evt} (h : oneP seed x.f0 x.f1 x.f2 x.f3) : errE seed x = 0 := by
  unfold errE
  by_cases hk : keyedE x.f0
  · rw [oneR_K h.1 h.2 hk]
  · rw [oneR_N h.1 h.2 hk]
theorem oneE_not {seed : ByteArray} {x : Evt} (h : errE seed x = 0) : oneP seed x.f0 x.f1 x.f2 x.f3 := by
  refine Decidable.byContradiction fun hn => ?_
  unfold errE at h
  rw [oneR_no hn] at h
  cases h
theorem again_ok {seed : ByteArray} {x : Evt} (h : errE seed x = 0) : errE seed (oneE seed x) = 0 := by
  have h1 := oneE_not h
  by_cases hk : keyedE x.f0
  · have e : oneE seed x = ⟨x.f0, x.f1, keyT seed x.f2, valT seed x.f3⟩ := by unfold oneE; rw [oneR_K h1.1 h1.2 hk]
    rw [e]
    refine oneE_ok ⟨h1.1, ?_⟩
    have hb := h1.2.1
    have hm := (mayK hb hk).1 h1.2
    refine (mayK hb hk).2 ?_
    have a : (keyT seed x.f2).size = 32 := keyedB_size _ _
    refine ⟨by rw [a]; decide, by rw [a]; decide, ?_, ?_⟩
    · show (valT seed x.f3).size ≤ 32
      unfold valT
      split
      · exact Nat.zero_le _
      · rw [keyedB_size]; decide
    · rcases hm.2.2.2 with h2 | h2
      · exact .inl h2
      · right
        unfold valT
        rw [if_neg h2]
        intro z
        have := congrArg ByteArray.size z
        rw [keyedB_size] at this
        cases this
  · have e : oneE seed x = x := by unfold oneE; rw [oneR_N h1.1 h1.2 hk]
    rw [e]
    exact h
theorem tag_small (seed : ByteArray) {x : Evt} (hx : x.f2.size ≤ 140737488351232 ∧ x.f3.size ≤ 140737488351232) : (oneE seed x).f2.size ≤ 140737488351232 ∧ (oneE seed x).f3.size ≤ 140737488351232 := by
  by_cases h : oneP seed x.f0 x.f1 x.f2 x.f3
  · by_cases hk : keyedE x.f0
    · have e : oneE seed x = ⟨x.f0, x.f1, keyT seed x.f2, valT seed x.f3⟩ := by unfold oneE; rw [oneR_K h.1 h.2 hk]
      rw [e]
      have a : (keyT seed x.f2).size = 32 := keyedB_size _ _
      refine ⟨by rw [a]; decide, ?_⟩
      show (valT seed x.f3).size ≤ _
      unfold valT
      split
      · decide
      · rw [keyedB_size]; decide
    · have e : oneE seed x = x := by unfold oneE; rw [oneR_N h.1 h.2 hk]
      rw [e]; exact hx
  · have e : oneE seed x = ⟨0, 0, ⟨#[]⟩, ⟨#[]⟩⟩ := by unfold oneE; rw [oneR_no h]
    rw [e]
    exact ⟨by show (⟨#[]⟩ : ByteArray).size ≤ _; decide, by show (⟨#[]⟩ : ByteArray).size ≤ _; decide⟩
theorem RedactAgain_pure (seed : ByteArray) (h : List Evt) (i : Int) (_ : seed.size ≤ 140737488351232) (hh : h.length * 48 ≤ 140737488351232 ∧ ∀ x ∈ h, (Lit.int .i64 x.f0).wf = true ∧ (Lit.int .i64 x.f1).wf = true ∧ x.f2.size ≤ 140737488351232 ∧ x.f3.size ≤ 140737488351232) (hi : (Lit.int .i64 i).wf = true) : ∃ k, cartouchelaw07_RedactAgain.f k seed h i = some true := by
  have hs : SmallE h := fun x hx => ⟨(hh.2 x hx).2.2.1, (hh.2 x hx).2.2.2⟩
  refine Ev.rounds (g := fun k => cartouchelaw07_RedactAgain.f k seed h i) ?_
  unfold cartouchelaw07_RedactAgain.f
  simp only [shown_f, few_f, Option.bind_some]
  refine Ev.bind (all_f seed h hs) ?_
  have hno : ∀ a, Ev (fun k => cartouchelaw07_RedactAgain.j0 k seed h i true a true) true := fun a => by
    refine Ev.step (f := fun _ => some true) (fun k => ?_) (Ev.now _)
    simp only [cartouchelaw07_RedactAgain.j0, if_true]
  by_cases hf : h.length ≤ 60
  · simp only [decide_eq_true hf, if_true]
    by_cases he : (allR seed h).2 = 0
    · have hR : allR seed h = allL seed [] h := by unfold allR; rw [if_neg (by omega)]
      rw [hR] at he ⊢
      obtain ⟨h0, h1⟩ := allL_ok seed h [] he
      rw [List.nil_append] at h1
      rw [he, h1]
      have hsa : SmallE (h.map (oneE seed)) := fun y hy => by
        obtain ⟨x, hx, rfl⟩ := List.mem_map.1 hy
        exact tag_small seed (hs x hx)
      have hla : (h.map (oneE seed)).length = h.length := List.length_map ..
      have hA : allR seed (h.map (oneE seed)) = ((h.map (oneE seed)).map (oneE seed), 0) := by
        unfold allR
        rw [if_neg (by rw [hla]; omega), allL_all seed _ _ (fun y hy => by
          obtain ⟨x, hx, rfl⟩ := List.mem_map.1 hy
          exact again_ok (h0 x hx)), List.nil_append]
      have hall := all_f seed _ hsa
      rw [hA] at hall
      generalize ha : h.map (oneE seed) = a at hall hla
      rw [show ((0 : Int) != 0) = false from rfl]
      by_cases hlt : i < 0 ∨ i ≥ (h.length : Int)
      · refine Ev.step (f := fun k => cartouchelaw07_RedactAgain.j0 (k + 1) seed h i true a false) (fun _ => rfl) ?_
        simp only [cartouchelaw07_RedactAgain.j0, Bool.false_eq_true, if_false]
        refine Ev.bind hall ?_
        have ht : ((a.length : Int) == (h.length : Int)) = true := by rw [hla]; simp
        rcases hlt with h2 | h2
        · simp only [if_pos h2, if_true, ht]
          exact Ev.now _
        · simp only [if_neg (show ¬ i < 0 by omega), if_pos h2, if_true, ht]
          exact Ev.now _
      · obtain ⟨m, rfl⟩ : ∃ m : Nat, i = (m : Int) := ⟨i.toNat, by omega⟩
        have hm : m < h.length := by omega
        have hxs := hs _ (rd_mem h m hm)
        have hone := one_f seed (rd_T26 h (m : Int)).f0 (rd_T26 h (m : Int)).f1 _ _ hxs.1 hxs.2
        have hx0 : errE seed (rd_T26 h (m : Int)) = 0 := h0 _ (rd_mem h m hm)
        have ea : rd_T26 a (m : Int) = oneE seed (rd_T26 h (m : Int)) := by
          have e1 := rd_get (l := a) (k := m) (by omega)
          rw [← ha, List.getElem?_map, rd_get hm] at e1
          rw [← ha]
          exact (Option.some.inj e1).symm
        refine Ev.step (f := fun k => cartouchelaw07_RedactAgain.j0 (k + 1) seed h (m : Int) true a false) (fun _ => rfl) ?_
        simp only [cartouchelaw07_RedactAgain.j0, Bool.false_eq_true, if_false]
        refine Ev.bind hall ?_
        simp only [if_neg (show ¬ (m : Int) < 0 by omega), if_neg (show ¬ (m : Int) ≥ (h.length : Int) by omega), if_pos (show (0 : Int) ≤ (m : Int) by omega), if_pos (show (m : Int) < (h.length : Int) by omega)]
        refine Ev.bind hone ?_
        refine Ev.congr (f := fun _ => some true) (fun k => ?_) (Ev.now _)
        unfold errE at hx0
        simp only [if_true, hx0, if_pos (show (a.length : Int) = (h.length : Int) by rw [hla]), if_pos (show (m : Int) < (a.length : Int) by omega), ea]
        unfold oneE
        simp
    · have : ((allR seed h).2 != 0) = true := by simpa using he
      simp only [this]
      exact hno _
  · simp only [decide_eq_false hf, Bool.false_eq_true, if_false]
    exact hno _
end Go.Proofs.YtbckobokiioeaaaDoor
