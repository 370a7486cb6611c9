/- THE LAW TreeSides, IN PLAIN LEAN: its printed function says true. -/
import Derived.Test.YtlcmpmodfkmfnaaDoorTreeL
import Derived.Test.YtlcmpmodfkmfnaaDoorQLTreeSides
set_option linter.unusedVariables false
set_option linter.unusedSimpArgs false
namespace Go.Proofs.YtlcmpmodfkmfnaaDoor
open Go.RowKit Go.Proofs.YtlcmpmodfkmfnaaDoor.Q Go.Proofs.YtlcmpmodfkmfnaaDoorW.PrintWords

/-! ### TreeSides -/
theorem sides_l1 (l p : List ByteArray) (x5 : Bool) (hl : l.length ≤ 200) (h5 : x5 = true) (hw : ∀ c, l.length ≤ 2 ^ c → p.length ≤ c) (h1 : l.length ≤ 1 → p.length = 0) (h2 : 1 < l.length → 0 < p.length) : ∀ (d c : Nat), c + d = 8 → 2 ^ c ≤ 256 →
    Ev (fun k => cartouchelaw03_TreeSides.l1 k l x5 p ((2 ^ c : Nat) : Int) (c : Int)) true
  | 0, c, hc, hb => by
    obtain rfl : c = 8 := by omega
    have := hw 8 (by omega)
    subst h5
    refine Ev.step (f := fun _ => some true) (fun k => ?_) (Ev.now _)
    simp only [cartouchelaw03_TreeSides.l1, if_true]
    rw [if_neg (show ¬ ((2 ^ 8 : Nat) : Int) < (l.length : Int) by omega), if_pos (show (p.length : Int) ≤ ((8 : Nat) : Int) by omega)]
    by_cases h3 : 1 < l.length
    · have := h2 h3
      rw [if_pos (show (l.length : Int) > 1 by omega), if_neg (show ¬ (l.length : Int) < 2 by omega), decide_eq_true (by omega)]
    · have := h1 (by omega)
      rw [if_neg (show ¬ (l.length : Int) > 1 by omega), if_pos (by omega), if_pos (by omega)]
  | d + 1, c, hc, hb => by
    by_cases hlt : 2 ^ c < l.length
    · have hb' : 2 ^ (c + 1) ≤ 256 := by
        have : 2 ^ (c + 1) ≤ 2 ^ 8 := Nat.pow_le_pow_right (by decide) (by omega)
        simpa using this
      have ih := sides_l1 l p x5 hl h5 hw h1 h2 d (c + 1) (by omega) hb'
      rw [Nat.pow_succ] at ih hb'
      generalize 2 ^ c = q at *
      refine Ev.step (fun k => ?_) ih
      simp only [cartouchelaw03_TreeSides.l1]
      rw [if_pos (by omega), wrap_id (by omega) (by omega), wrap_id (by omega) (by omega), show (q : Int) + (q : Int) = ((q * 2 : Nat) : Int) by omega]
      rfl
    · have := hw c (by omega)
      generalize 2 ^ c = q at *
      subst h5
      refine Ev.step (f := fun _ => some true) (fun k => ?_) (Ev.now _)
      simp only [cartouchelaw03_TreeSides.l1, if_true]
      rw [if_neg (by omega), if_pos (show (p.length : Int) ≤ (c : Int) by omega)]
      by_cases h3 : 1 < l.length
      · have := h2 h3
        rw [if_pos (show (l.length : Int) > 1 by omega), if_neg (show ¬ (l.length : Int) < 2 by omega), decide_eq_true (by omega)]
      · have := h1 (by omega)
        rw [if_neg (show ¬ (l.length : Int) > 1 by omega), if_pos (by omega), if_pos (by omega)]
theorem sides_l0 (l p : List ByteArray) (x5 : Bool) (hp : ∀ t ∈ p, t.size = 32) (hm : p.length ≤ 12) (hend : Ev (fun k => cartouchelaw03_TreeSides.l1 k l x5 p 1 0) true) : ∀ (d k : Nat), k + d = p.length → Ev (fun n => cartouchelaw03_TreeSides.l0 n l x5 p (k : Int)) true
  | 0, k, hk => by
    refine Ev.step (fun n => ?_) hend
    simp only [cartouchelaw03_TreeSides.l0]
    rw [if_neg (by omega)]
  | d + 1, k, hk => by
    have ih := sides_l0 l p x5 hp hm hend d (k + 1) (by omega)
    have hs : (p.getD k ByteArray.empty).size = 32 := by
      rw [List.getD_eq_getElem?_getD, List.getElem?_eq_getElem (by omega)]
      exact hp _ (List.getElem_mem _)
    refine Ev.step (fun n => ?_) ih
    simp only [cartouchelaw03_TreeSides.l0]
    rw [if_pos (by omega), if_pos (by omega), rd_nat, if_pos (by omega), wrap_id (by omega) (by omega)]
    rfl
theorem TreeSides_pure (l : List ByteArray) (i : Int) (hl : l.length * 16 ≤ 140737488351232 ∧ ∀ x ∈ l, x.size ≤ 140737488351232) (_ : (Lit.int .i64 i).wf = true) : ∃ k, cartouchelaw03_TreeSides.f k l i = some true := by
  have hs := small_of hl
  refine Ev.rounds (g := fun k => cartouchelaw03_TreeSides.f k l i) ?_
  unfold cartouchelaw03_TreeSides.f
  simp only [shown_f, Option.bind_some]
  refine Ev.bind (few_f l (len_of hl)) ?_
  rw [path_f l i hs]
  refine Ev.congr (fun k => Option.bind_some _ _) ?_
  cases hf : fewV l.length l with
  | false =>
    simp only [Bool.false_eq_true, if_false]
    refine Ev.step (f := fun _ => some true) (fun k => ?_) (Ev.now _)
    simp only [cartouchelaw03_TreeSides.j0, if_true, Bool.false_eq_true, if_false]
  | true =>
    obtain ⟨h200, _⟩ := fewV_spec _ _ hf
    simp only [if_true]
    unfold pathR
    rw [if_neg (by omega)]
    by_cases hi : i < 0 ∨ (l.length : Int) ≤ i
    · rw [if_pos hi]
      refine Ev.step (f := fun _ => some true) (fun k => ?_) (Ev.now _)
      simp only [cartouchelaw03_TreeSides.j0]
      rw [if_pos (by decide)]
      simp only [if_true]
      by_cases h0 : i < 0
      · rw [if_pos h0]
      · rw [if_neg h0, decide_eq_true (by omega)]
    · rw [if_neg hi]
      refine Ev.step (f := fun k => cartouchelaw03_TreeSides.l0 k l true (TM.pathL sumB l i.toNat) 0) (fun k => ?_) ?_
      · simp only [cartouchelaw03_TreeSides.j0]
        rw [if_neg (by decide)]
      · have hpl := path_len l i.toNat (by omega)
        refine sides_l0 l (TM.pathL sumB l i.toNat) true (path_32 l i.toNat (by omega)) (path_le l i.toNat (by omega) (by omega)) ?_ (TM.pathL sumB l i.toNat).length 0 (by omega)
        exact sides_l1 l (TM.pathL sumB l i.toNat) true h200 rfl (fun c hc => by rw [hpl]; exact TM.way_le c _ 0 _ hc) (fun h => by rw [hpl, TM.wayL_nil (by omega)]; rfl) (fun h => by rw [hpl]; exact TM.way_pos h) 8 0 (by omega) (by decide)

end Go.Proofs.YtlcmpmodfkmfnaaDoor
