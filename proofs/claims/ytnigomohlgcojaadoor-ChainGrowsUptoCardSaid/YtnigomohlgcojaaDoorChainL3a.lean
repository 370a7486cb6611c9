/- THE LAWS ChainGrows (of rows that are not too great for a machine), IN PLAIN LEAN. -/
import Derived.Test.YtnigomohlgcojaaDoorChainE
import Derived.Test.YtnigomohlgcojaaDoorR4
set_option linter.unusedVariables false
set_option linter.unusedSimpArgs false
namespace Go.Proofs.YtnigomohlgcojaaDoor
open Go.RowKit Go.Proofs.YtnigomohlgcojaaDoor.Q Go.Proofs.YtnigomohlgcojaaDoorW.PrintWords

theorem Ev_unstep' {α : Type} {g : Nat → Option α} {r : α} (h : Ev (fun k => g (k + 1)) r) : Ev g r := Ev.step (fun _ => rfl) h
theorem headR_size : ∀ (p : ByteArray) (l : List ByteArray), p.size ≤ 32 → (headR p l).1.size ≤ 32
  | p, [], h => h
  | p, b :: r, h => by
    unfold headR
    by_cases h1 : (nextR p b).2 = 0
    · rw [if_pos h1]
      refine headR_size _ r ?_
      unfold nextR
      split
      · exact Nat.le_of_eq (sumB_size _)
      · exact Nat.zero_le _
    · rw [if_neg h1]
      exact Nat.zero_le _
theorem ChainGrows_pure (l : List ByteArray) (b : ByteArray) (hl : l.length * 16 ≤ 140737488351232 ∧ ∀ x ∈ l, x.size ≤ 140737488351232) (hb : b.size ≤ 140737488351232) (hu : l.length ≤ 1048576) : ∃ k, R.cartouchelaw04_ChainGrows.f k l b = some true := by
  refine Ev.rounds (g := fun k => R.cartouchelaw04_ChainGrows.f k l b) ?_
  have bad : ∀ p x n y m, Ev (fun k => R.cartouchelaw04_ChainGrows.j0 k b true p x n y m true) true := fun p x n y m => by
    refine Ev.step (f := fun _ => some _) (fun k => ?_) (Ev.now _)
    simp only [R.cartouchelaw04_ChainGrows.j0, if_true]
  have hlb : (l ++ [b]).length ≤ 4294967296 := by simp; omega
  unfold R.cartouchelaw04_ChainGrows.f
  simp only [shown_f, few_f, Option.bind_some, head_f l (by omega), links_f l (by omega), List.nil_append, List.length_nil]
  simp only [if_pos (show 0 + l.length < 8796093022208 by omega), if_pos (show l.length < 8796093022208 by omega), links_f _ hlb, Option.bind_some]
  by_cases h : l.length ≤ 200
  · simp only [decide_eq_true (show (l.length : Int) ≤ 200 by omega), if_true]
    by_cases h0 : (headR ⟨#[]⟩ l).2 = 0
    · simp only [if_pos h0]
      by_cases hbig : (b.size : Int) > 65535
      · simp only [decide_eq_true hbig]
        exact bad _ _ _ _ _
      · simp only [decide_eq_false hbig]
        have hsz := headR_size ⟨#[]⟩ l (Nat.zero_le _)
        have hL : linksR l = (linksL ⟨#[]⟩ l, 0) := by unfold linksR; rw [if_pos h0]
        have hn := nextR_ok (p := (headR ⟨#[]⟩ l).1) (b := b) (by omega)
        have h1 : (headR ⟨#[]⟩ (l ++ [b])).2 = 0 := by rw [headR_snoc, if_pos h0, hn]
        have hL2 : linksR (l ++ [b]) = (linksL ⟨#[]⟩ l ++ [⟨(headR ⟨#[]⟩ l).1, b⟩], 0) := by
          unfold linksR
          rw [if_pos h1, linksL_snoc _ _ _ h0]
        have hlen := linksL_length ⟨#[]⟩ l
        refine Ev_unstep' ?_
        simp only [R.cartouchelaw04_ChainGrows.j0, Bool.false_eq_true, if_false, if_true, hL, hL2]
        generalize hx : linksL ⟨#[]⟩ l = x at *
        generalize (headR ⟨#[]⟩ l).1 = q at *
        have e1 : ((x ++ [(⟨q, b⟩ : Lk)]).length : Int) = wrap64 ((x.length : Int) + 1) := by
          rw [wrap_id (by omega) (by omega)]
          simp
        simp only [if_pos e1, if_pos (show (0 : Int) ≤ (x.length : Int) by omega), if_pos (show (x.length : Int) ≤ ((x ++ [(⟨q, b⟩ : Lk)]).length : Int) by simp; omega), if_pos (show (x.length : Int) < ((x ++ [(⟨q, b⟩ : Lk)]).length : Int) by simp; omega)]
        have e2 : (x ++ [(⟨q, b⟩ : Lk)]).take ((x.length : Int)).toNat = x := by simp
        rw [e2]
        refine Ev.bind (rsame_f x (by omega)) ?_
        have e3 : rd_T40 (x ++ [(⟨q, b⟩ : Lk)]) (x.length : Int) = ⟨q, b⟩ := by
          rw [rdT_nat, List.getD_eq_getElem?_getD, List.getElem?_append_right (Nat.le_refl _), Nat.sub_self]
          rfl
        simp only [if_true, e3, beq_self_eq_true, Bool.and_self]
        exact Ev.now _
    · simp only [if_neg h0]
      exact bad _ _ _ _ _
  · simp only [decide_eq_false (show ¬ (l.length : Int) ≤ 200 by omega), Bool.false_eq_true, if_false]
    exact bad _ _ _ _ _
end Go.Proofs.YtnigomohlgcojaaDoor
