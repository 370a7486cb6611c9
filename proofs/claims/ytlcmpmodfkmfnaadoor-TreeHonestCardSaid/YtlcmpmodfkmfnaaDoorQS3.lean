-- Written by pp.py and splitq.py, programs of the session, with the kit's print. Not trusted: Lean checks it.
import Derived.Test.YtlcmpmodfkmfnaaDoorQS2
namespace Go.Proofs.YtlcmpmodfkmfnaaDoor.Q
open Go.RowKit Go.Proofs.YtlcmpmodfkmfnaaDoorW.PrintWords Go.Proofs.YtlcmpmodfkmfnaaDoorW.PrintLast
set_option linter.unusedVariables false
set_option linter.unusedSimpArgs false

/-! ### cartoucheref03_inputs: function 54 -/
def cartoucheref03_inputs.f : Nat → Int → Int → ByteArray → List ByteArray → Option (List ByteArray × Bool)
  | 0, _, _, _, _ => none
  | k + 1, a0, a1, a2, l3 => if a0 = 1 then ((cartoucheref03_LeafIn.f a2).bind fun t241 => (some ((([t241] : List ByteArray)), ((l3.length : Int) == 0)))) else (if (l3.length : Int) = 0 then (some (([] : List ByteArray), false)) else ((cartoucheref03_half.f k a0).bind fun t245 => (if 0 ≤ (wrap64 ((l3.length : Int) - 1)) then (if (wrap64 ((l3.length : Int) - 1)) < (l3.length : Int) then (if a1 < t245 then (if (wrap64 ((l3.length : Int) - 1)) ≤ (l3.length : Int) then ((cartoucheref03_inputs.f k t245 a1 a2 (l3.take ((wrap64 ((l3.length : Int) - 1)) : Int).toNat)).bind fun bt248 => (if bt248.2 = true then (if 0 ≤ (wrap64 ((bt248.1.length : Int) - 1)) then (if (wrap64 ((bt248.1.length : Int) - 1)) < (bt248.1.length : Int) then ((cartoucheref02_Sum.f (rdOf ByteArray.empty bt248.1 (wrap64 ((bt248.1.length : Int) - 1)))).bind fun t253 => ((cartoucheref03_NodeIn.f t253 (rdOf ByteArray.empty l3 (wrap64 ((l3.length : Int) - 1)))).bind fun t254 => (if bt248.1.length < 8796093022208 then (some ((bt248.1 ++ [t254]), true)) else (none)))) else (none)) else (none)) else (some (([] : List ByteArray), false)))) else (none)) else (if (wrap64 ((l3.length : Int) - 1)) ≤ (l3.length : Int) then ((cartoucheref03_inputs.f k (wrap64 (a0 - t245)) (wrap64 (a1 - t245)) a2 (l3.take ((wrap64 ((l3.length : Int) - 1)) : Int).toNat)).bind fun bt259 => (if bt259.2 = true then (if 0 ≤ (wrap64 ((bt259.1.length : Int) - 1)) then (if (wrap64 ((bt259.1.length : Int) - 1)) < (bt259.1.length : Int) then ((cartoucheref02_Sum.f (rdOf ByteArray.empty bt259.1 (wrap64 ((bt259.1.length : Int) - 1)))).bind fun t264 => ((cartoucheref03_NodeIn.f (rdOf ByteArray.empty l3 (wrap64 ((l3.length : Int) - 1))) t264).bind fun t265 => (if bt259.1.length < 8796093022208 then (some ((bt259.1 ++ [t265]), true)) else (none)))) else (none)) else (none)) else (some (([] : List ByteArray), false)))) else (none))) else (none)) else (none))))
theorem cartoucheref03_inputs.mono_l : ∀ k, (∀ y0 y1 y2 y3, LeO (cartoucheref03_inputs.f k y0 y1 y2 y3) (cartoucheref03_inputs.f (k + 1) y0 y1 y2 y3))
  | 0 => fun _ _ _ _ r h => by simp [cartoucheref03_inputs.f] at h
  | k + 1 => by
    have ih0 := cartoucheref03_inputs.mono_l k
    · intro y0 y1 y2 y3
      unfold cartoucheref03_inputs.f
      repeat' first
      | (with_reducible exact ih0 _ _ _ _)
      | (with_reducible exact cartoucheref03_half.mono _ _)
      | (with_reducible exact LeO.refl _)
      | (with_reducible exact LeO.none _)
      | (with_reducible refine LeO.ite ?_ ?_)
      | (with_reducible refine LeO.bind ?_ (fun _ => ?_))
      | exact ih0 _ _ _ _
      | exact cartoucheref03_half.mono _ _
      | exact LeO.none _
      | refine LeO.ite ?_ ?_
      | refine LeO.bind ?_ (fun _ => ?_)
theorem cartoucheref03_inputs.mono : ∀ a0 a1 a2 a3 k, LeO (cartoucheref03_inputs.f k a0 a1 a2 a3) (cartoucheref03_inputs.f (k + 1) a0 a1 a2 a3) := by
  intro a0 a1 a2 a3 k
  have ih0 := cartoucheref03_inputs.mono_l k
  exact ih0 a0 a1 a2 a3
set_option maxHeartbeats 8000000 in
set_option maxRecDepth 100000 in
theorem cartoucheref03_inputs.calls (k : Nat) : ∀ (a0 : Int) (a1 : Int) (a2 : ByteArray) (A3 : Option Addr) (c3 : Nat) (l3 : List ByteArray) (r1 : List ByteArray) (r2 : Bool) (w : World) (hr3 : Kd.C Kd.string w A3 l3.length l3) (hc3 : l3.length ≤ c3) (h : cartoucheref03_inputs.f k a0 a1 a2 l3 = some (r1, r2)),
    Calls Tryd.prog 54 #[.int .i64 a0, .int .i64 a1, .string a2, .slice A3 l3.length c3] w fun e w' => ∃ v0_ : Value, e = .returned (.tuple #[v0_, .bool r2]) ∧ Kd.R Kd.string 9 w' w.heap.size (fun _ => True) v0_ r1 ∧ Below w.heap.size w w' := by
  induction k using Nat.strongRecOn with
  | _ k ih =>
  intro a0 a1 a2 A3 c3 l3 r1 r2 w hr3 hc3 h
  cases k with
  | zero => exact absurd h (by simp [cartoucheref03_inputs.f])
  | succ k =>
  simp only [cartoucheref03_inputs.f] at h
  have HR3 := Aside0.mk hr3
  have HC3 := Aside0.mk hc3
  clear hr3 hc3
  have HB := Aside0.mk (Below.refl w.heap.size w)
  have H : (if a0 = 1 then ((cartoucheref03_LeafIn.f a2).bind fun t241 => (some ((([t241] : List ByteArray)), ((l3.length : Int) == 0)))) else (if (l3.length : Int) = 0 then (some (([] : List ByteArray), false)) else ((cartoucheref03_half.f k a0).bind fun t245 => (if 0 ≤ (wrap64 ((l3.length : Int) - 1)) then (if (wrap64 ((l3.length : Int) - 1)) < (l3.length : Int) then (if a1 < t245 then (if (wrap64 ((l3.length : Int) - 1)) ≤ (l3.length : Int) then ((cartoucheref03_inputs.f k t245 a1 a2 (l3.take ((wrap64 ((l3.length : Int) - 1)) : Int).toNat)).bind fun bt248 => (if bt248.2 = true then (if 0 ≤ (wrap64 ((bt248.1.length : Int) - 1)) then (if (wrap64 ((bt248.1.length : Int) - 1)) < (bt248.1.length : Int) then ((cartoucheref02_Sum.f (rdOf ByteArray.empty bt248.1 (wrap64 ((bt248.1.length : Int) - 1)))).bind fun t253 => ((cartoucheref03_NodeIn.f t253 (rdOf ByteArray.empty l3 (wrap64 ((l3.length : Int) - 1)))).bind fun t254 => (if bt248.1.length < 8796093022208 then (some ((bt248.1 ++ [t254]), true)) else (none)))) else (none)) else (none)) else (some (([] : List ByteArray), false)))) else (none)) else (if (wrap64 ((l3.length : Int) - 1)) ≤ (l3.length : Int) then ((cartoucheref03_inputs.f k (wrap64 (a0 - t245)) (wrap64 (a1 - t245)) a2 (l3.take ((wrap64 ((l3.length : Int) - 1)) : Int).toNat)).bind fun bt259 => (if bt259.2 = true then (if 0 ≤ (wrap64 ((bt259.1.length : Int) - 1)) then (if (wrap64 ((bt259.1.length : Int) - 1)) < (bt259.1.length : Int) then ((cartoucheref02_Sum.f (rdOf ByteArray.empty bt259.1 (wrap64 ((bt259.1.length : Int) - 1)))).bind fun t264 => ((cartoucheref03_NodeIn.f (rdOf ByteArray.empty l3 (wrap64 ((l3.length : Int) - 1))) t264).bind fun t265 => (if bt259.1.length < 8796093022208 then (some ((bt259.1 ++ [t265]), true)) else (none)))) else (none)) else (none)) else (some (([] : List ByteArray), false)))) else (none))) else (none)) else (none))))) = some (r1, r2) := h
  clear h
  by_cases c5 : a0 = 1
  · rw [if_pos c5] at H
    have c5b0 : (a0 == 1) = true := beq_iff_eq.mpr c5
    have c5b1 : (a0 != 1) = false := bne_eq_false_iff_eq.mpr c5
    clear c5
    replace H := Option.bind_eq_some_iff.mp H
    obtain ⟨t241, A60, H⟩ := H
    replace H : (some ((([t241] : List ByteArray)), ((l3.length : Int) == 0))) = some (r1, r2) := H
    have A6 := Aside0.mk A60
    clear A60
    obtain ⟨y242, hy242⟩ : ∃ y_ : List ByteArray, y_ = (([t241] : List ByteArray)) := ⟨_, rfl⟩
    replace H : (some (y242, ((l3.length : Int) == 0))) = some (r1, r2) := by first | (rw [hy242]; with_reducible exact H) | (have H2_ := (Option.bind_some _ _).symm.trans H; rw [hy242]; with_reducible exact H2_) | (have H2_ := (Option.bind_some _ _).symm.trans H; with_reducible exact H2_) | with_reducible exact H | (rw [hy242]; exact H) | exact H
    have Ny242 := Aside0.mk hy242
    clear hy242
    simp only [Option.some.injEq, Prod.mk.injEq] at H
    obtain ⟨rfl, rfl⟩ := H
    go_enter Tryd.func54, Tryd.ntmps54
    go_wp2_with (first | ((with_reducible refine look_callee (f := 41) rfl ?_); refine goesL_ (some 19) rfl rfl Tryd.func41 (by kernel_rfl) rfl #[.string a2] rfl (by (try simp only [List.map_toArray, List.map_cons, List.map_nil]); first | done | rfl | (simp only [List.length_drop, List.length_take]; rfl)) ?_; (with_reducible refine (cartoucheref03_LeafIn.calls a2 t241 _ A6.out).mono ?_); rintro e w' ⟨rfl, ⟨nd, rfl⟩⟩; refine ⟨_, rfl, ?_⟩) | ((with_reducible refine gate_dst (N := 20) rfl ?_); refine Kd.R_lit Kd.string _ 9 ?hg (N := 20) ?hd (xs := ([t241] : List ByteArray)) (inner := [.string t241]) (ok := fun _ => True) (okp := fun _ => True) ?hr ?hp (fun _ hk => hk) trivial (Below.refl _ _) (Nat.le_refl _) (by simp) ?_; (case hd => rfl); (case hg => rfl); (case hr => first | (go_simp; done) | (go_simp; rfl)); (case hp => exact (Reps.one (show Kd.M Kd.string _ _ _ t241 [.string t241] from rfl) (Reps.none _ _))); intro v243 w7 ho8 hb hg_ hnew_; clear hg_ hnew_; (first | rw [← Ny242.out] at ho8 | (simp only [Int.reduceToNat] at ho8; rw [← Ny242.out] at ho8)); have n0_ := Aside0.mk (Kd.R_lower ho8 (below_size (by repeat (first | (with_reducible first | exact HB.out | apply below_alloc | apply pw_below_drewN | apply below_drew1) | exact HB.out)))); have n1_ := Aside0.mk (below_step (by repeat (first | (with_reducible first | exact HB.out | apply below_alloc | apply pw_below_drewN | apply below_drew1) | exact HB.out)) hb); clear HB; have HO244 := n0_; have HB := n1_; clear n0_ n1_; clear hb ho8))
    go_ret2
    exact ⟨_, by first | rfl | (simp [errW_none, errW_some] <;> rfl) | (simp [*, errW_none, errW_some] <;> rfl), by (with_reducible repeat (first | apply Kd.R_alloc | apply Kd.R_drewN | apply Kd.R_drew)); exact HO244.out, by repeat (first | (with_reducible first | exact HB.out | apply below_alloc | apply pw_below_drewN | apply below_drew1) | exact HB.out)⟩
  · rw [if_neg c5] at H
    have c5b0 : (a0 == 1) = false := beq_eq_false_iff_ne.mpr c5
    have c5b1 : (a0 != 1) = true := bne_iff_ne.mpr c5
    by_cases c9 : (l3.length : Int) = 0
    · rw [if_pos c9] at H
      have c9b0 : ((l3.length : Int) == 0) = true := beq_iff_eq.mpr c9
      have c9b1 : ((l3.length : Int) != 0) = false := bne_eq_false_iff_eq.mpr c9
      clear c9
      simp only [Option.some.injEq, Prod.mk.injEq] at H
      obtain ⟨rfl, rfl⟩ := H
      go_enter Tryd.func54, Tryd.ntmps54
      go_wp2
      go_ret2
      exact ⟨_, by first | rfl | (simp [errW_none, errW_some] <;> rfl) | (simp [*, errW_none, errW_some] <;> rfl), by first | exact Kd.R_nil _ _ _ _ _ | exact Kd.N_nil _ _ _ _ _ | exact Kd.V_nil _ _ _ _ _ | exact Kd.Q_nil _ _ _ _ _ | exact Kd.S_nil _ _ _ _ _, by repeat (first | (with_reducible first | exact HB.out | apply below_alloc | apply pw_below_drewN | apply below_drew1) | exact HB.out)⟩
    · rw [if_neg c9] at H
      have c9b0 : ((l3.length : Int) == 0) = false := beq_eq_false_iff_ne.mpr c9
      have c9b1 : ((l3.length : Int) != 0) = true := bne_iff_ne.mpr c9
      have c9b2 : ¬ (l3 = []) := fun h_ => c9 (by rw [h_]; rfl)
      replace H := Option.bind_eq_some_iff.mp H
      obtain ⟨t245, A100, H⟩ := H
      replace H : (if 0 ≤ (wrap64 ((l3.length : Int) - 1)) then (if (wrap64 ((l3.length : Int) - 1)) < (l3.length : Int) then (if a1 < t245 then (if (wrap64 ((l3.length : Int) - 1)) ≤ (l3.length : Int) then ((cartoucheref03_inputs.f k t245 a1 a2 (l3.take ((wrap64 ((l3.length : Int) - 1)) : Int).toNat)).bind fun bt248 => (if bt248.2 = true then (if 0 ≤ (wrap64 ((bt248.1.length : Int) - 1)) then (if (wrap64 ((bt248.1.length : Int) - 1)) < (bt248.1.length : Int) then ((cartoucheref02_Sum.f (rdOf ByteArray.empty bt248.1 (wrap64 ((bt248.1.length : Int) - 1)))).bind fun t253 => ((cartoucheref03_NodeIn.f t253 (rdOf ByteArray.empty l3 (wrap64 ((l3.length : Int) - 1)))).bind fun t254 => (if bt248.1.length < 8796093022208 then (some ((bt248.1 ++ [t254]), true)) else (none)))) else (none)) else (none)) else (some (([] : List ByteArray), false)))) else (none)) else (if (wrap64 ((l3.length : Int) - 1)) ≤ (l3.length : Int) then ((cartoucheref03_inputs.f k (wrap64 (a0 - t245)) (wrap64 (a1 - t245)) a2 (l3.take ((wrap64 ((l3.length : Int) - 1)) : Int).toNat)).bind fun bt259 => (if bt259.2 = true then (if 0 ≤ (wrap64 ((bt259.1.length : Int) - 1)) then (if (wrap64 ((bt259.1.length : Int) - 1)) < (bt259.1.length : Int) then ((cartoucheref02_Sum.f (rdOf ByteArray.empty bt259.1 (wrap64 ((bt259.1.length : Int) - 1)))).bind fun t264 => ((cartoucheref03_NodeIn.f (rdOf ByteArray.empty l3 (wrap64 ((l3.length : Int) - 1))) t264).bind fun t265 => (if bt259.1.length < 8796093022208 then (some ((bt259.1 ++ [t265]), true)) else (none)))) else (none)) else (none)) else (some (([] : List ByteArray), false)))) else (none))) else (none)) else (none)) = some (r1, r2) := H
      have A10 := Aside0.mk A100
      clear A100
      obtain ⟨ji11, hji11⟩ : ∃ j_ : Int, (wrap64 ((l3.length : Int) - 1)) = j_ := ⟨_, rfl⟩
      replace H : (if 0 ≤ (ji11) then (if (ji11) < (l3.length : Int) then (if a1 < t245 then (if (ji11) ≤ (l3.length : Int) then ((cartoucheref03_inputs.f k t245 a1 a2 (l3.take ((ji11) : Int).toNat)).bind fun bt248 => (if bt248.2 = true then (if 0 ≤ (wrap64 ((bt248.1.length : Int) - 1)) then (if (wrap64 ((bt248.1.length : Int) - 1)) < (bt248.1.length : Int) then ((cartoucheref02_Sum.f (rdOf ByteArray.empty bt248.1 (wrap64 ((bt248.1.length : Int) - 1)))).bind fun t253 => ((cartoucheref03_NodeIn.f t253 (rdOf ByteArray.empty l3 (ji11))).bind fun t254 => (if bt248.1.length < 8796093022208 then (some ((bt248.1 ++ [t254]), true)) else (none)))) else (none)) else (none)) else (some (([] : List ByteArray), false)))) else (none)) else (if (ji11) ≤ (l3.length : Int) then ((cartoucheref03_inputs.f k (wrap64 (a0 - t245)) (wrap64 (a1 - t245)) a2 (l3.take ((ji11) : Int).toNat)).bind fun bt259 => (if bt259.2 = true then (if 0 ≤ (wrap64 ((bt259.1.length : Int) - 1)) then (if (wrap64 ((bt259.1.length : Int) - 1)) < (bt259.1.length : Int) then ((cartoucheref02_Sum.f (rdOf ByteArray.empty bt259.1 (wrap64 ((bt259.1.length : Int) - 1)))).bind fun t264 => ((cartoucheref03_NodeIn.f (rdOf ByteArray.empty l3 (ji11)) t264).bind fun t265 => (if bt259.1.length < 8796093022208 then (some ((bt259.1 ++ [t265]), true)) else (none)))) else (none)) else (none)) else (some (([] : List ByteArray), false)))) else (none))) else (none)) else (none)) = some (r1, r2) := by first | (rw [hji11] at H; exact H) | (simp only [hji11] at H ⊢; exact H)
      (try rw [hji11] at A10)
      have hji11w : (IntKind.i64.wrap ((l3.length : Int) - 1)) = ji11 := (i64_w _).trans hji11
      by_cases c12 : 0 ≤ (ji11)
      · rw [if_pos c12] at H
        have c12b0 : decide (0 ≤ (ji11)) = true := decide_eq_true c12
        clear c12
        by_cases c13 : (ji11) < (l3.length : Int)
        · rw [if_pos c13] at H
          have c13b0 : decide ((ji11) < (l3.length : Int)) = true := decide_eq_true c13
          clear c13
          by_cases c14 : a1 < t245
          · rw [if_pos c14] at H
            have c14b0 : decide (a1 < t245) = true := decide_eq_true c14
            clear c14
            have c15b0 := eq_true (of_decide_eq_true (by first | (with_reducible assumption) | assumption) : 0 ≤ (ji11))
            by_cases c16 : (ji11) ≤ (l3.length : Int)
            · rw [if_pos c16] at H
              have c16b0 := eq_true c16
              have c16b1 : decide ((ji11) ≤ (l3.length : Int)) = true := decide_eq_true c16
              clear c16
              replace H := Option.bind_eq_some_iff.mp H
              obtain ⟨⟨t248, t249⟩, A170, H⟩ := H
              replace H : (if t249 = true then (if 0 ≤ (wrap64 ((t248.length : Int) - 1)) then (if (wrap64 ((t248.length : Int) - 1)) < (t248.length : Int) then ((cartoucheref02_Sum.f (rdOf ByteArray.empty t248 (wrap64 ((t248.length : Int) - 1)))).bind fun t253 => ((cartoucheref03_NodeIn.f t253 (rdOf ByteArray.empty l3 (ji11))).bind fun t254 => (if t248.length < 8796093022208 then (some ((t248 ++ [t254]), true)) else (none)))) else (none)) else (none)) else (some (([] : List ByteArray), false))) = some (r1, r2) := H
              have A17 := Aside0.mk A170
              clear A170
              by_cases c18 : t249 = true
              · subst c18
                have H1 : (if 0 ≤ (wrap64 ((t248.length : Int) - 1)) then (if (wrap64 ((t248.length : Int) - 1)) < (t248.length : Int) then ((cartoucheref02_Sum.f (rdOf ByteArray.empty t248 (wrap64 ((t248.length : Int) - 1)))).bind fun t253 => ((cartoucheref03_NodeIn.f t253 (rdOf ByteArray.empty l3 (ji11))).bind fun t254 => (if t248.length < 8796093022208 then (some ((t248 ++ [t254]), true)) else (none)))) else (none)) else (none)) = some (r1, r2) := by rw [if_pos rfl] at H; exact H
                clear H
                have H := H1
                clear H1
                obtain ⟨ji19, hji19⟩ : ∃ j_ : Int, (wrap64 ((t248.length : Int) - 1)) = j_ := ⟨_, rfl⟩
                replace H : (if 0 ≤ (ji19) then (if (ji19) < (t248.length : Int) then ((cartoucheref02_Sum.f (rdOf ByteArray.empty t248 (ji19))).bind fun t253 => ((cartoucheref03_NodeIn.f t253 (rdOf ByteArray.empty l3 (ji11))).bind fun t254 => (if t248.length < 8796093022208 then (some ((t248 ++ [t254]), true)) else (none)))) else (none)) else (none)) = some (r1, r2) := by first | (rw [hji19] at H; exact H) | (simp only [hji19] at H ⊢; exact H)
                (try rw [hji19] at A10)
                (try rw [hji19] at A17)
                have hji19w : (IntKind.i64.wrap ((t248.length : Int) - 1)) = ji19 := (i64_w _).trans hji19
                by_cases c20 : 0 ≤ (ji19)
                · rw [if_pos c20] at H
                  have c20b0 : decide (0 ≤ (ji19)) = true := decide_eq_true c20
                  clear c20
                  by_cases c21 : (ji19) < (t248.length : Int)
                  · rw [if_pos c21] at H
                    have c21b0 : decide ((ji19) < (t248.length : Int)) = true := decide_eq_true c21
                    clear c21
                    replace H := Option.bind_eq_some_iff.mp H
                    obtain ⟨t253, A220, H⟩ := H
                    replace H : ((cartoucheref03_NodeIn.f t253 (rdOf ByteArray.empty l3 (ji11))).bind fun t254 => (if t248.length < 8796093022208 then (some ((t248 ++ [t254]), true)) else (none))) = some (r1, r2) := H
                    have A22 := Aside0.mk A220
                    clear A220
                    replace H := Option.bind_eq_some_iff.mp H
                    obtain ⟨t254, A230, H⟩ := H
                    replace H : (if t248.length < 8796093022208 then (some ((t248 ++ [t254]), true)) else (none)) = some (r1, r2) := H
                    have A23 := Aside0.mk A230
                    clear A230
                    by_cases c24 : t248.length < 8796093022208
                    · rw [if_pos c24] at H
                      have LMc24 := Aside0.mk c24
                      clear c24
                      obtain ⟨y255, hy255⟩ : ∃ y_ : List ByteArray, y_ = (t248 ++ [t254]) := ⟨_, rfl⟩
                      replace H : (some (y255, true)) = some (r1, r2) := by first | (rw [hy255]; with_reducible exact H) | (have H2_ := (Option.bind_some _ _).symm.trans H; rw [hy255]; with_reducible exact H2_) | (have H2_ := (Option.bind_some _ _).symm.trans H; with_reducible exact H2_) | with_reducible exact H | (rw [hy255]; exact H) | exact H
                      have Ny255 := Aside0.mk hy255
                      clear hy255
                      simp only [Option.some.injEq, Prod.mk.injEq] at H
                      obtain ⟨rfl, rfl⟩ := H
                      go_enter Tryd.func54, Tryd.ntmps54
                      go_wp2_with (first | ((with_reducible refine look_callee (f := 39) rfl ?_); refine goesL_ (some 28) rfl rfl Tryd.func39 (by kernel_rfl) rfl #[.int .i64 a0] rfl (by (try simp only [List.map_toArray, List.map_cons, List.map_nil]); first | done | rfl | (simp only [List.length_drop, List.length_take]; rfl)) ?_; (with_reducible refine (cartoucheref03_half.calls k a0 t245 _ A10.out).mono ?_); rintro e w' ⟨rfl, ⟨nd, rfl⟩⟩; refine ⟨_, rfl, ?_⟩; have p246 : 0 ≤ ((ji11) : Int) := of_decide_eq_true (by first | (with_reducible assumption) | assumption); have q246 : (ji11) < (l3.length : Int) := of_decide_eq_true (by first | (with_reducible assumption) | assumption); obtain ⟨ad246, e246, hx246_0⟩ := Kd.at_string HR3.out (ji11) p246 q246; cases e246; replace p246 := eq_true p246; replace q246 := eq_true q246; obtain ⟨i025, hi025, _, hsz25, _⟩ := info_parts info9; obtain ⟨hcut25, hA25, hC25⟩ := print_take_of (P := Tryd.prog) Value.string (⟨#[]⟩ : ByteArray) 22 9 .i64 Tryd.underlying22 hi025 hsz25 (some ad246) c3 l3 (ji11) (of_decide_eq_true (by first | (with_reducible assumption) | assumption)) (of_decide_eq_true (by first | (with_reducible assumption) | assumption)) HC3.out; have HR247 := Aside0.mk (Kd.C_of_reads (h1 := fun _ => rfl) (hA25 _ (Kd.reads_of_C HR3.out))); have HC247 := Aside0.mk hC25; clear hA25 hC25 hi025 hsz25) | ((with_reducible refine look_callee (f := 54) rfl ?_); refine goesL_ (some 47) rfl rfl Tryd.func54 (by kernel_rfl) rfl #[.int .i64 t245, .int .i64 a1, .string a2, .slice (some ad246) (l3.take ((ji11) : Int).toNat).length c3] rfl (by (try simp only [List.map_toArray, List.map_cons, List.map_nil]); first | done | (rw [show (l3.take ((ji11) : Int).toNat).length = (ji11).toNat from (by rw [List.length_take]; have h_ : ((ji11) : Int) ≤ (l3.length : Int) := of_decide_eq_true (by first | (with_reducible assumption) | assumption); omega)] <;> rfl) | (simp only [hji11]; rfl) | rfl | (simp only [List.length_drop, List.length_take]; rfl)) ?_; (with_reducible refine (ih k (by omega) t245 a1 a2 _ _ (l3.take ((ji11) : Int).toNat) t248 true _ ?side1 ?side2 A17.out).mono ?_); (case side1 => repeat (first | exact HR247.out | (with_reducible refine Kd.C_alloc ?_ _) | (with_reducible refine Kd.C_drewN ?_ _) | (with_reducible refine Kd.C_drew ?_))); (case side2 => exact HC247.out); rintro e w26 ⟨v250, rfl, ho0, hb⟩; refine ⟨_, rfl, ?_⟩; have n0_ := Aside0.mk (Kd.R_lower ho0 (below_size (by repeat (first | (with_reducible first | exact HB.out | apply below_alloc | apply pw_below_drewN | apply below_drew1) | exact HB.out)))); have n1_ := Aside0.mk (below_step (by repeat (first | (with_reducible first | exact HB.out | apply below_alloc | apply pw_below_drewN | apply below_drew1) | exact HB.out)) hb); clear HB; have HO251 := n0_; have HB := n1_; clear n0_ n1_; (try clear hb); (try clear hb2); (try clear hk); (try clear hi); (try clear ho0); obtain ⟨Ao27, co27, eo27⟩ := Kd.R_slice HO251.out; subst eo27; have p252 : 0 ≤ ((ji19) : Int) := of_decide_eq_true (by first | (with_reducible assumption) | assumption); have q252 : (ji19) < (t248.length : Int) := of_decide_eq_true (by first | (with_reducible assumption) | assumption); obtain ⟨ad252, e252, hx252_0⟩ := Kd.at_string (Kd.R_reads' HO251.out).2.2 (ji19) p252 q252; cases e252; replace p252 := eq_true p252; replace q252 := eq_true q252) | ((with_reducible refine look_callee (f := 24) rfl ?_); refine goesL_ (some 59) rfl rfl Tryd.func24 (by kernel_rfl) rfl #[.string (rdOf ByteArray.empty t248 (ji19))] rfl (by (try simp only [List.map_toArray, List.map_cons, List.map_nil]); first | done | (simp only [hji19]; rfl) | rfl | (simp only [List.length_drop, List.length_take]; rfl)) ?_; (with_reducible refine (cartoucheref02_Sum.calls (rdOf ByteArray.empty t248 (ji19)) t253 _ A22.out).mono ?_); rintro e w28 ⟨rfl, hb⟩; refine ⟨_, rfl, ?_⟩; have n0_ := Aside0.mk (Kd.R_below (by (with_reducible repeat (first | apply Kd.R_alloc | apply Kd.R_drewN | apply Kd.R_drew)); exact HO251.out) hb); have n1_ := Aside0.mk (below_step (by repeat (first | (with_reducible first | exact HB.out | apply below_alloc | apply pw_below_drewN | apply below_drew1) | exact HB.out)) hb); clear HO251; clear HB; have HO251 := n0_; have HB := n1_; clear n0_ n1_; (try clear hb); (try clear hb2); (try clear hk); (try clear hi)) | ((with_reducible refine look_callee (f := 43) rfl ?_); refine goesL_ (some 61) rfl rfl Tryd.func43 (by kernel_rfl) rfl #[.string t253, .string (rdOf ByteArray.empty l3 (ji11))] rfl (by (try simp only [List.map_toArray, List.map_cons, List.map_nil]); first | done | (simp only [hji11]; rfl) | rfl | (simp only [List.length_drop, List.length_take]; rfl)) ?_; (with_reducible refine (cartoucheref03_NodeIn.calls t253 (rdOf ByteArray.empty l3 (ji11)) t254 _ A23.out).mono ?_); rintro e w' ⟨rfl, ⟨nd, rfl⟩⟩; refine ⟨_, rfl, ?_⟩) | ((with_reducible refine look_builtin (b := .append) (xs := #[.tmp 52, .tmp 62]) rfl ?_); at_builtin; refine Kd.R_append Kd.string (w0 := w) w.heap.size rfl (.tmp 52) (.tmp 62) 22 9 (.string ⟨#[]⟩) 16 rfl Tryd.underlying22 info9 rfl (by decide) (by omega) (.slice (some ad252) t248.length co27) t248 t254 [.string t254] (fun _ => True) (fun _ => False) rfl rfl ?aP (fun _ hk => hk.elim) ?aF ?aO ?aB ?aS ?aL ?_; (case aP => exact rfl); (case aB => exact (by repeat (first | (with_reducible first | exact HB.out | apply below_alloc | apply pw_below_drewN | apply below_drew1) | exact HB.out))); (case aF => exact (fun _ _ => trivial)); (case aO => exact (by (with_reducible repeat (first | apply Kd.R_alloc | apply Kd.R_drewN | apply Kd.R_drew)); exact HO251.out)); (case aS => exact (below_size (by repeat (first | (with_reducible first | exact HB.out | apply below_alloc | apply pw_below_drewN | apply below_drew1) | exact HB.out)))); (case aL => have := LMc24.out; omega); intro v256 w29 ho hb hg hat; rw [← Ny255.out] at ho; have n0_ := Aside0.mk (hb); have n1_ := Aside0.mk (ho); clear HB; clear HO251; have HB := n0_; have HO257 := n1_; clear n0_ n1_; clear ho hb hg hat))
                      go_ret2
                      exact ⟨_, by first | rfl | (simp [errW_none, errW_some] <;> rfl) | (simp only [← hji11, ← hji19]; first | rfl | (simp [errW_none, errW_some] <;> rfl)) | (simp [*, errW_none, errW_some] <;> rfl), by (with_reducible repeat (first | apply Kd.R_alloc | apply Kd.R_drewN | apply Kd.R_drew)); exact HO257.out, by repeat (first | (with_reducible first | exact HB.out | apply below_alloc | apply pw_below_drewN | apply below_drew1) | exact HB.out)⟩
                    · rw [if_neg c24] at H
                      exact absurd H (by simp)
                  · rw [if_neg c21] at H
                    exact absurd H (by simp)
                · rw [if_neg c20] at H
                  exact absurd H (by simp)
              · replace c18 := Bool.eq_false_iff.mpr c18
                subst c18
                have H1 : (some (([] : List ByteArray), false)) = some (r1, r2) := by rw [if_neg (show ¬ (false = true) by decide)] at H; exact H
                clear H
                have H := H1
                clear H1
                simp only [Option.some.injEq, Prod.mk.injEq] at H
                obtain ⟨rfl, rfl⟩ := H
                go_enter Tryd.func54, Tryd.ntmps54
                go_wp2_with (first | ((with_reducible refine look_callee (f := 39) rfl ?_); refine goesL_ (some 28) rfl rfl Tryd.func39 (by kernel_rfl) rfl #[.int .i64 a0] rfl (by (try simp only [List.map_toArray, List.map_cons, List.map_nil]); first | done | rfl | (simp only [List.length_drop, List.length_take]; rfl)) ?_; (with_reducible refine (cartoucheref03_half.calls k a0 t245 _ A10.out).mono ?_); rintro e w' ⟨rfl, ⟨nd, rfl⟩⟩; refine ⟨_, rfl, ?_⟩; have p246 : 0 ≤ ((ji11) : Int) := of_decide_eq_true (by first | (with_reducible assumption) | assumption); have q246 : (ji11) < (l3.length : Int) := of_decide_eq_true (by first | (with_reducible assumption) | assumption); obtain ⟨ad246, e246, hx246_0⟩ := Kd.at_string HR3.out (ji11) p246 q246; cases e246; replace p246 := eq_true p246; replace q246 := eq_true q246; obtain ⟨i030, hi030, _, hsz30, _⟩ := info_parts info9; obtain ⟨hcut30, hA30, hC30⟩ := print_take_of (P := Tryd.prog) Value.string (⟨#[]⟩ : ByteArray) 22 9 .i64 Tryd.underlying22 hi030 hsz30 (some ad246) c3 l3 (ji11) (of_decide_eq_true (by first | (with_reducible assumption) | assumption)) (of_decide_eq_true (by first | (with_reducible assumption) | assumption)) HC3.out; have HR247 := Aside0.mk (Kd.C_of_reads (h1 := fun _ => rfl) (hA30 _ (Kd.reads_of_C HR3.out))); have HC247 := Aside0.mk hC30; clear hA30 hC30 hi030 hsz30) | ((with_reducible refine look_callee (f := 54) rfl ?_); refine goesL_ (some 47) rfl rfl Tryd.func54 (by kernel_rfl) rfl #[.int .i64 t245, .int .i64 a1, .string a2, .slice (some ad246) (l3.take ((ji11) : Int).toNat).length c3] rfl (by (try simp only [List.map_toArray, List.map_cons, List.map_nil]); first | done | (rw [show (l3.take ((ji11) : Int).toNat).length = (ji11).toNat from (by rw [List.length_take]; have h_ : ((ji11) : Int) ≤ (l3.length : Int) := of_decide_eq_true (by first | (with_reducible assumption) | assumption); omega)] <;> rfl) | (simp only [hji11]; rfl) | rfl | (simp only [List.length_drop, List.length_take]; rfl)) ?_; (with_reducible refine (ih k (by omega) t245 a1 a2 _ _ (l3.take ((ji11) : Int).toNat) t248 false _ ?side1 ?side2 A17.out).mono ?_); (case side1 => repeat (first | exact HR247.out | (with_reducible refine Kd.C_alloc ?_ _) | (with_reducible refine Kd.C_drewN ?_ _) | (with_reducible refine Kd.C_drew ?_))); (case side2 => exact HC247.out); rintro e w31 ⟨v250, rfl, ho0, hb⟩; refine ⟨_, rfl, ?_⟩; have n0_ := Aside0.mk (Kd.R_lower ho0 (below_size (by repeat (first | (with_reducible first | exact HB.out | apply below_alloc | apply pw_below_drewN | apply below_drew1) | exact HB.out)))); have n1_ := Aside0.mk (below_step (by repeat (first | (with_reducible first | exact HB.out | apply below_alloc | apply pw_below_drewN | apply below_drew1) | exact HB.out)) hb); clear HB; have HO251 := n0_; have HB := n1_; clear n0_ n1_; (try clear hb); (try clear hb2); (try clear hk); (try clear hi); (try clear ho0)))
                go_ret2
                exact ⟨_, by first | rfl | (simp [errW_none, errW_some] <;> rfl) | (simp only [← hji11]; first | rfl | (simp [errW_none, errW_some] <;> rfl)) | (simp [*, errW_none, errW_some] <;> rfl), by first | exact Kd.R_nil _ _ _ _ _ | exact Kd.N_nil _ _ _ _ _ | exact Kd.V_nil _ _ _ _ _ | exact Kd.Q_nil _ _ _ _ _ | exact Kd.S_nil _ _ _ _ _, by repeat (first | (with_reducible first | exact HB.out | apply below_alloc | apply pw_below_drewN | apply below_drew1) | exact HB.out)⟩
            · rw [if_neg c16] at H
              exact absurd H (by simp)
          · rw [if_neg c14] at H
            have c14b0 : decide (a1 < t245) = false := decide_eq_false c14
            clear c14
            have c32b0 := eq_true (of_decide_eq_true (by first | (with_reducible assumption) | assumption) : 0 ≤ (ji11))
            by_cases c33 : (ji11) ≤ (l3.length : Int)
            · rw [if_pos c33] at H
              have c33b0 := eq_true c33
              have c33b1 : decide ((ji11) ≤ (l3.length : Int)) = true := decide_eq_true c33
              clear c33
              replace H := Option.bind_eq_some_iff.mp H
              obtain ⟨⟨t259, t260⟩, A340, H⟩ := H
              replace H : (if t260 = true then (if 0 ≤ (wrap64 ((t259.length : Int) - 1)) then (if (wrap64 ((t259.length : Int) - 1)) < (t259.length : Int) then ((cartoucheref02_Sum.f (rdOf ByteArray.empty t259 (wrap64 ((t259.length : Int) - 1)))).bind fun t264 => ((cartoucheref03_NodeIn.f (rdOf ByteArray.empty l3 (ji11)) t264).bind fun t265 => (if t259.length < 8796093022208 then (some ((t259 ++ [t265]), true)) else (none)))) else (none)) else (none)) else (some (([] : List ByteArray), false))) = some (r1, r2) := H
              have A34 := Aside0.mk A340
              clear A340
              by_cases c35 : t260 = true
              · subst c35
                have H1 : (if 0 ≤ (wrap64 ((t259.length : Int) - 1)) then (if (wrap64 ((t259.length : Int) - 1)) < (t259.length : Int) then ((cartoucheref02_Sum.f (rdOf ByteArray.empty t259 (wrap64 ((t259.length : Int) - 1)))).bind fun t264 => ((cartoucheref03_NodeIn.f (rdOf ByteArray.empty l3 (ji11)) t264).bind fun t265 => (if t259.length < 8796093022208 then (some ((t259 ++ [t265]), true)) else (none)))) else (none)) else (none)) = some (r1, r2) := by rw [if_pos rfl] at H; exact H
                clear H
                have H := H1
                clear H1
                obtain ⟨ji36, hji36⟩ : ∃ j_ : Int, (wrap64 ((t259.length : Int) - 1)) = j_ := ⟨_, rfl⟩
                replace H : (if 0 ≤ (ji36) then (if (ji36) < (t259.length : Int) then ((cartoucheref02_Sum.f (rdOf ByteArray.empty t259 (ji36))).bind fun t264 => ((cartoucheref03_NodeIn.f (rdOf ByteArray.empty l3 (ji11)) t264).bind fun t265 => (if t259.length < 8796093022208 then (some ((t259 ++ [t265]), true)) else (none)))) else (none)) else (none)) = some (r1, r2) := by first | (rw [hji36] at H; exact H) | (simp only [hji36] at H ⊢; exact H)
                (try rw [hji36] at A10)
                (try rw [hji36] at A34)
                have hji36w : (IntKind.i64.wrap ((t259.length : Int) - 1)) = ji36 := (i64_w _).trans hji36
                by_cases c37 : 0 ≤ (ji36)
                · rw [if_pos c37] at H
                  have c37b0 : decide (0 ≤ (ji36)) = true := decide_eq_true c37
                  clear c37
                  by_cases c38 : (ji36) < (t259.length : Int)
                  · rw [if_pos c38] at H
                    have c38b0 : decide ((ji36) < (t259.length : Int)) = true := decide_eq_true c38
                    clear c38
                    replace H := Option.bind_eq_some_iff.mp H
                    obtain ⟨t264, A390, H⟩ := H
                    replace H : ((cartoucheref03_NodeIn.f (rdOf ByteArray.empty l3 (ji11)) t264).bind fun t265 => (if t259.length < 8796093022208 then (some ((t259 ++ [t265]), true)) else (none))) = some (r1, r2) := H
                    have A39 := Aside0.mk A390
                    clear A390
                    replace H := Option.bind_eq_some_iff.mp H
                    obtain ⟨t265, A400, H⟩ := H
                    replace H : (if t259.length < 8796093022208 then (some ((t259 ++ [t265]), true)) else (none)) = some (r1, r2) := H
                    have A40 := Aside0.mk A400
                    clear A400
                    by_cases c41 : t259.length < 8796093022208
                    · rw [if_pos c41] at H
                      have LMc41 := Aside0.mk c41
                      clear c41
                      obtain ⟨y266, hy266⟩ : ∃ y_ : List ByteArray, y_ = (t259 ++ [t265]) := ⟨_, rfl⟩
                      replace H : (some (y266, true)) = some (r1, r2) := by first | (rw [hy266]; with_reducible exact H) | (have H2_ := (Option.bind_some _ _).symm.trans H; rw [hy266]; with_reducible exact H2_) | (have H2_ := (Option.bind_some _ _).symm.trans H; with_reducible exact H2_) | with_reducible exact H | (rw [hy266]; exact H) | exact H
                      have Ny266 := Aside0.mk hy266
                      clear hy266
                      simp only [Option.some.injEq, Prod.mk.injEq] at H
                      obtain ⟨rfl, rfl⟩ := H
                      go_enter Tryd.func54, Tryd.ntmps54
                      go_wp2_with (first | ((with_reducible refine look_callee (f := 39) rfl ?_); refine goesL_ (some 28) rfl rfl Tryd.func39 (by kernel_rfl) rfl #[.int .i64 a0] rfl (by (try simp only [List.map_toArray, List.map_cons, List.map_nil]); first | done | rfl | (simp only [List.length_drop, List.length_take]; rfl)) ?_; (with_reducible refine (cartoucheref03_half.calls k a0 t245 _ A10.out).mono ?_); rintro e w' ⟨rfl, ⟨nd, rfl⟩⟩; refine ⟨_, rfl, ?_⟩; have p246 : 0 ≤ ((ji11) : Int) := of_decide_eq_true (by first | (with_reducible assumption) | assumption); have q246 : (ji11) < (l3.length : Int) := of_decide_eq_true (by first | (with_reducible assumption) | assumption); obtain ⟨ad246, e246, hx246_0⟩ := Kd.at_string HR3.out (ji11) p246 q246; cases e246; replace p246 := eq_true p246; replace q246 := eq_true q246; obtain ⟨i042, hi042, _, hsz42, _⟩ := info_parts info9; obtain ⟨hcut42, hA42, hC42⟩ := print_take_of (P := Tryd.prog) Value.string (⟨#[]⟩ : ByteArray) 22 9 .i64 Tryd.underlying22 hi042 hsz42 (some ad246) c3 l3 (ji11) (of_decide_eq_true (by first | (with_reducible assumption) | assumption)) (of_decide_eq_true (by first | (with_reducible assumption) | assumption)) HC3.out; have HR258 := Aside0.mk (Kd.C_of_reads (h1 := fun _ => rfl) (hA42 _ (Kd.reads_of_C HR3.out))); have HC258 := Aside0.mk hC42; clear hA42 hC42 hi042 hsz42) | ((with_reducible refine look_callee (f := 54) rfl ?_); refine goesL_ (some 77) rfl rfl Tryd.func54 (by kernel_rfl) rfl #[.int .i64 (wrap64 (a0 - t245)), .int .i64 (wrap64 (a1 - t245)), .string a2, .slice (some ad246) (l3.take ((ji11) : Int).toNat).length c3] rfl (by (try simp only [List.map_toArray, List.map_cons, List.map_nil]); first | done | (rw [show (l3.take ((ji11) : Int).toNat).length = (ji11).toNat from (by rw [List.length_take]; have h_ : ((ji11) : Int) ≤ (l3.length : Int) := of_decide_eq_true (by first | (with_reducible assumption) | assumption); omega)] <;> rfl) | (simp only [hji11]; rfl) | rfl | (simp only [List.length_drop, List.length_take]; rfl)) ?_; (with_reducible refine (ih k (by omega) (wrap64 (a0 - t245)) (wrap64 (a1 - t245)) a2 _ _ (l3.take ((ji11) : Int).toNat) t259 true _ ?side1 ?side2 A34.out).mono ?_); (case side1 => repeat (first | exact HR258.out | (with_reducible refine Kd.C_alloc ?_ _) | (with_reducible refine Kd.C_drewN ?_ _) | (with_reducible refine Kd.C_drew ?_))); (case side2 => exact HC258.out); rintro e w43 ⟨v261, rfl, ho0, hb⟩; refine ⟨_, rfl, ?_⟩; have n0_ := Aside0.mk (Kd.R_lower ho0 (below_size (by repeat (first | (with_reducible first | exact HB.out | apply below_alloc | apply pw_below_drewN | apply below_drew1) | exact HB.out)))); have n1_ := Aside0.mk (below_step (by repeat (first | (with_reducible first | exact HB.out | apply below_alloc | apply pw_below_drewN | apply below_drew1) | exact HB.out)) hb); clear HB; have HO262 := n0_; have HB := n1_; clear n0_ n1_; (try clear hb); (try clear hb2); (try clear hk); (try clear hi); (try clear ho0); obtain ⟨Ao44, co44, eo44⟩ := Kd.R_slice HO262.out; subst eo44; have p263 : 0 ≤ ((ji36) : Int) := of_decide_eq_true (by first | (with_reducible assumption) | assumption); have q263 : (ji36) < (t259.length : Int) := of_decide_eq_true (by first | (with_reducible assumption) | assumption); obtain ⟨ad263, e263, hx263_0⟩ := Kd.at_string (Kd.R_reads' HO262.out).2.2 (ji36) p263 q263; cases e263; replace p263 := eq_true p263; replace q263 := eq_true q263) | ((with_reducible refine look_callee (f := 24) rfl ?_); refine goesL_ (some 90) rfl rfl Tryd.func24 (by kernel_rfl) rfl #[.string (rdOf ByteArray.empty t259 (ji36))] rfl (by (try simp only [List.map_toArray, List.map_cons, List.map_nil]); first | done | (simp only [hji36]; rfl) | rfl | (simp only [List.length_drop, List.length_take]; rfl)) ?_; (with_reducible refine (cartoucheref02_Sum.calls (rdOf ByteArray.empty t259 (ji36)) t264 _ A39.out).mono ?_); rintro e w45 ⟨rfl, hb⟩; refine ⟨_, rfl, ?_⟩; have n0_ := Aside0.mk (Kd.R_below (by (with_reducible repeat (first | apply Kd.R_alloc | apply Kd.R_drewN | apply Kd.R_drew)); exact HO262.out) hb); have n1_ := Aside0.mk (below_step (by repeat (first | (with_reducible first | exact HB.out | apply below_alloc | apply pw_below_drewN | apply below_drew1) | exact HB.out)) hb); clear HO262; clear HB; have HO262 := n0_; have HB := n1_; clear n0_ n1_; (try clear hb); (try clear hb2); (try clear hk); (try clear hi)) | ((with_reducible refine look_callee (f := 43) rfl ?_); refine goesL_ (some 91) rfl rfl Tryd.func43 (by kernel_rfl) rfl #[.string (rdOf ByteArray.empty l3 (ji11)), .string t264] rfl (by (try simp only [List.map_toArray, List.map_cons, List.map_nil]); first | done | (simp only [hji11]; rfl) | rfl | (simp only [List.length_drop, List.length_take]; rfl)) ?_; (with_reducible refine (cartoucheref03_NodeIn.calls (rdOf ByteArray.empty l3 (ji11)) t264 t265 _ A40.out).mono ?_); rintro e w' ⟨rfl, ⟨nd, rfl⟩⟩; refine ⟨_, rfl, ?_⟩) | ((with_reducible refine look_builtin (b := .append) (xs := #[.tmp 82, .tmp 92]) rfl ?_); at_builtin; refine Kd.R_append Kd.string (w0 := w) w.heap.size rfl (.tmp 82) (.tmp 92) 22 9 (.string ⟨#[]⟩) 16 rfl Tryd.underlying22 info9 rfl (by decide) (by omega) (.slice (some ad263) t259.length co44) t259 t265 [.string t265] (fun _ => True) (fun _ => False) rfl rfl ?aP (fun _ hk => hk.elim) ?aF ?aO ?aB ?aS ?aL ?_; (case aP => exact rfl); (case aB => exact (by repeat (first | (with_reducible first | exact HB.out | apply below_alloc | apply pw_below_drewN | apply below_drew1) | exact HB.out))); (case aF => exact (fun _ _ => trivial)); (case aO => exact (by (with_reducible repeat (first | apply Kd.R_alloc | apply Kd.R_drewN | apply Kd.R_drew)); exact HO262.out)); (case aS => exact (below_size (by repeat (first | (with_reducible first | exact HB.out | apply below_alloc | apply pw_below_drewN | apply below_drew1) | exact HB.out)))); (case aL => have := LMc41.out; omega); intro v267 w46 ho hb hg hat; rw [← Ny266.out] at ho; have n0_ := Aside0.mk (hb); have n1_ := Aside0.mk (ho); clear HB; clear HO262; have HB := n0_; have HO268 := n1_; clear n0_ n1_; clear ho hb hg hat))
                      go_ret2
                      exact ⟨_, by first | rfl | (simp [errW_none, errW_some] <;> rfl) | (simp only [← hji11, ← hji36]; first | rfl | (simp [errW_none, errW_some] <;> rfl)) | (simp [*, errW_none, errW_some] <;> rfl), by (with_reducible repeat (first | apply Kd.R_alloc | apply Kd.R_drewN | apply Kd.R_drew)); exact HO268.out, by repeat (first | (with_reducible first | exact HB.out | apply below_alloc | apply pw_below_drewN | apply below_drew1) | exact HB.out)⟩
                    · rw [if_neg c41] at H
                      exact absurd H (by simp)
                  · rw [if_neg c38] at H
                    exact absurd H (by simp)
                · rw [if_neg c37] at H
                  exact absurd H (by simp)
              · replace c35 := Bool.eq_false_iff.mpr c35
                subst c35
                have H1 : (some (([] : List ByteArray), false)) = some (r1, r2) := by rw [if_neg (show ¬ (false = true) by decide)] at H; exact H
                clear H
                have H := H1
                clear H1
                simp only [Option.some.injEq, Prod.mk.injEq] at H
                obtain ⟨rfl, rfl⟩ := H
                go_enter Tryd.func54, Tryd.ntmps54
                go_wp2_with (first | ((with_reducible refine look_callee (f := 39) rfl ?_); refine goesL_ (some 28) rfl rfl Tryd.func39 (by kernel_rfl) rfl #[.int .i64 a0] rfl (by (try simp only [List.map_toArray, List.map_cons, List.map_nil]); first | done | rfl | (simp only [List.length_drop, List.length_take]; rfl)) ?_; (with_reducible refine (cartoucheref03_half.calls k a0 t245 _ A10.out).mono ?_); rintro e w' ⟨rfl, ⟨nd, rfl⟩⟩; refine ⟨_, rfl, ?_⟩; have p246 : 0 ≤ ((ji11) : Int) := of_decide_eq_true (by first | (with_reducible assumption) | assumption); have q246 : (ji11) < (l3.length : Int) := of_decide_eq_true (by first | (with_reducible assumption) | assumption); obtain ⟨ad246, e246, hx246_0⟩ := Kd.at_string HR3.out (ji11) p246 q246; cases e246; replace p246 := eq_true p246; replace q246 := eq_true q246; obtain ⟨i047, hi047, _, hsz47, _⟩ := info_parts info9; obtain ⟨hcut47, hA47, hC47⟩ := print_take_of (P := Tryd.prog) Value.string (⟨#[]⟩ : ByteArray) 22 9 .i64 Tryd.underlying22 hi047 hsz47 (some ad246) c3 l3 (ji11) (of_decide_eq_true (by first | (with_reducible assumption) | assumption)) (of_decide_eq_true (by first | (with_reducible assumption) | assumption)) HC3.out; have HR258 := Aside0.mk (Kd.C_of_reads (h1 := fun _ => rfl) (hA47 _ (Kd.reads_of_C HR3.out))); have HC258 := Aside0.mk hC47; clear hA47 hC47 hi047 hsz47) | ((with_reducible refine look_callee (f := 54) rfl ?_); refine goesL_ (some 77) rfl rfl Tryd.func54 (by kernel_rfl) rfl #[.int .i64 (wrap64 (a0 - t245)), .int .i64 (wrap64 (a1 - t245)), .string a2, .slice (some ad246) (l3.take ((ji11) : Int).toNat).length c3] rfl (by (try simp only [List.map_toArray, List.map_cons, List.map_nil]); first | done | (rw [show (l3.take ((ji11) : Int).toNat).length = (ji11).toNat from (by rw [List.length_take]; have h_ : ((ji11) : Int) ≤ (l3.length : Int) := of_decide_eq_true (by first | (with_reducible assumption) | assumption); omega)] <;> rfl) | (simp only [hji11]; rfl) | rfl | (simp only [List.length_drop, List.length_take]; rfl)) ?_; (with_reducible refine (ih k (by omega) (wrap64 (a0 - t245)) (wrap64 (a1 - t245)) a2 _ _ (l3.take ((ji11) : Int).toNat) t259 false _ ?side1 ?side2 A34.out).mono ?_); (case side1 => repeat (first | exact HR258.out | (with_reducible refine Kd.C_alloc ?_ _) | (with_reducible refine Kd.C_drewN ?_ _) | (with_reducible refine Kd.C_drew ?_))); (case side2 => exact HC258.out); rintro e w48 ⟨v261, rfl, ho0, hb⟩; refine ⟨_, rfl, ?_⟩; have n0_ := Aside0.mk (Kd.R_lower ho0 (below_size (by repeat (first | (with_reducible first | exact HB.out | apply below_alloc | apply pw_below_drewN | apply below_drew1) | exact HB.out)))); have n1_ := Aside0.mk (below_step (by repeat (first | (with_reducible first | exact HB.out | apply below_alloc | apply pw_below_drewN | apply below_drew1) | exact HB.out)) hb); clear HB; have HO262 := n0_; have HB := n1_; clear n0_ n1_; (try clear hb); (try clear hb2); (try clear hk); (try clear hi); (try clear ho0)))
                go_ret2
                exact ⟨_, by first | rfl | (simp [errW_none, errW_some] <;> rfl) | (simp only [← hji11]; first | rfl | (simp [errW_none, errW_some] <;> rfl)) | (simp [*, errW_none, errW_some] <;> rfl), by first | exact Kd.R_nil _ _ _ _ _ | exact Kd.N_nil _ _ _ _ _ | exact Kd.V_nil _ _ _ _ _ | exact Kd.Q_nil _ _ _ _ _ | exact Kd.S_nil _ _ _ _ _, by repeat (first | (with_reducible first | exact HB.out | apply below_alloc | apply pw_below_drewN | apply below_drew1) | exact HB.out)⟩
            · rw [if_neg c33] at H
              exact absurd H (by simp)
        · rw [if_neg c13] at H
          exact absurd H (by simp)
      · rw [if_neg c12] at H
        exact absurd H (by simp)

/-! ### cartoucheref03_Climb: function 27 -/
mutual
def cartoucheref03_Climb.j0 : Nat → Int → Int → ByteArray → List ByteArray → Bool → Option (List ByteArray × Int)
  | 0, _, _, _, _, _ => none
  | k + 1, x0, x1, x2, x3, x27 => if x27 = true then (some (([] : List ByteArray), 1)) else (cartoucheref03_Climb.l0 k x0 x1 x2 x3 0)
def cartoucheref03_Climb.l0 : Nat → Int → Int → ByteArray → List ByteArray → Int → Option (List ByteArray × Int)
  | 0, _, _, _, _, _ => none
  | k + 1, x0, x1, x2, x3, x10 => if x10 < (x3.length : Int) then (if 0 ≤ x10 then (if ((rdOf ByteArray.empty x3 x10).size : Int) = 32 then (cartoucheref03_Climb.l0 k x0 x1 x2 x3 (wrap64 (x10 + 1))) else (some (([] : List ByteArray), 14))) else (none)) else ((cartoucheref03_inputs.f k x0 x1 x2 x3).bind fun bt270 => (if bt270.2 = true then (if 0 ≤ (wrap64 ((bt270.1.length : Int) - 1)) then (if (wrap64 ((bt270.1.length : Int) - 1)) < (bt270.1.length : Int) then ((cartoucheref02_Sum.f (rdOf ByteArray.empty bt270.1 (wrap64 ((bt270.1.length : Int) - 1)))).bind fun t275 => ((cartoucheref03_RootIn.f k x0 t275).bind fun t276 => (if bt270.1.length < 8796093022208 then (some ((bt270.1 ++ [t276]), 0)) else (none)))) else (none)) else (none)) else (some (([] : List ByteArray), 14))))
end
def cartoucheref03_Climb.f (k : Nat) (a0 : Int) (a1 : Int) (a2 : ByteArray) (l3 : List ByteArray) : Option (List ByteArray × Int) := if a0 < 1 then (cartoucheref03_Climb.j0 k a0 a1 a2 l3 true) else (if a0 > 4096 then (cartoucheref03_Climb.j0 k a0 a1 a2 l3 true) else (if a1 < 0 then (cartoucheref03_Climb.j0 k a0 a1 a2 l3 true) else (cartoucheref03_Climb.j0 k a0 a1 a2 l3 (decide (a1 ≥ a0)))))
theorem cartoucheref03_Climb.mono_l : ∀ k, (∀ y0 y1 y2 y3 y4, LeO (cartoucheref03_Climb.j0 k y0 y1 y2 y3 y4) (cartoucheref03_Climb.j0 (k + 1) y0 y1 y2 y3 y4)) ∧ (∀ y0 y1 y2 y3 y4, LeO (cartoucheref03_Climb.l0 k y0 y1 y2 y3 y4) (cartoucheref03_Climb.l0 (k + 1) y0 y1 y2 y3 y4))
  | 0 => ⟨fun _ _ _ _ _ r h => by simp [cartoucheref03_Climb.j0] at h, fun _ _ _ _ _ r h => by simp [cartoucheref03_Climb.l0] at h⟩
  | k + 1 => by
    obtain ⟨ih0, ih1⟩ := cartoucheref03_Climb.mono_l k
    refine ⟨?_, ?_⟩
    · intro y0 y1 y2 y3 y4
      unfold cartoucheref03_Climb.j0
      repeat' first
      | (with_reducible exact ih0 _ _ _ _ _)
      | (with_reducible exact ih1 _ _ _ _ _)
      | (with_reducible exact cartoucheref03_RootIn.mono _ _ _)
      | (with_reducible exact cartoucheref03_inputs.mono _ _ _ _ _)
      | (with_reducible exact LeO.refl _)
      | (with_reducible exact LeO.none _)
      | (with_reducible refine LeO.ite ?_ ?_)
      | (with_reducible refine LeO.bind ?_ (fun _ => ?_))
      | exact ih0 _ _ _ _ _
      | exact ih1 _ _ _ _ _
      | exact cartoucheref03_RootIn.mono _ _ _
      | exact cartoucheref03_inputs.mono _ _ _ _ _
      | exact LeO.none _
      | refine LeO.ite ?_ ?_
      | refine LeO.bind ?_ (fun _ => ?_)
    · intro y0 y1 y2 y3 y4
      unfold cartoucheref03_Climb.l0
      repeat' first
      | (with_reducible exact ih0 _ _ _ _ _)
      | (with_reducible exact ih1 _ _ _ _ _)
      | (with_reducible exact cartoucheref03_RootIn.mono _ _ _)
      | (with_reducible exact cartoucheref03_inputs.mono _ _ _ _ _)
      | (with_reducible exact LeO.refl _)
      | (with_reducible exact LeO.none _)
      | (with_reducible refine LeO.ite ?_ ?_)
      | (with_reducible refine LeO.bind ?_ (fun _ => ?_))
      | exact ih0 _ _ _ _ _
      | exact ih1 _ _ _ _ _
      | exact cartoucheref03_RootIn.mono _ _ _
      | exact cartoucheref03_inputs.mono _ _ _ _ _
      | exact LeO.none _
      | refine LeO.ite ?_ ?_
      | refine LeO.bind ?_ (fun _ => ?_)
theorem cartoucheref03_Climb.mono : ∀ a0 a1 a2 a3 k, LeO (cartoucheref03_Climb.f k a0 a1 a2 a3) (cartoucheref03_Climb.f (k + 1) a0 a1 a2 a3) := by
  intro a0 a1 a2 a3 k
  obtain ⟨ih0, ih1⟩ := cartoucheref03_Climb.mono_l k
  unfold cartoucheref03_Climb.f
  repeat' first
      | (with_reducible exact ih0 _ _ _ _ _)
      | (with_reducible exact ih1 _ _ _ _ _)
      | (with_reducible exact cartoucheref03_RootIn.mono _ _ _)
      | (with_reducible exact cartoucheref03_inputs.mono _ _ _ _ _)
      | (with_reducible exact LeO.refl _)
      | (with_reducible exact LeO.none _)
      | (with_reducible refine LeO.ite ?_ ?_)
      | (with_reducible refine LeO.bind ?_ (fun _ => ?_))
      | exact ih0 _ _ _ _ _
      | exact ih1 _ _ _ _ _
      | exact cartoucheref03_RootIn.mono _ _ _
      | exact cartoucheref03_inputs.mono _ _ _ _ _
      | exact LeO.none _
      | refine LeO.ite ?_ ?_
      | refine LeO.bind ?_ (fun _ => ?_)
set_option maxHeartbeats 8000000 in
set_option maxRecDepth 100000 in
theorem cartoucheref03_Climb.calls (k : Nat) (a0 : Int) (a1 : Int) (a2 : ByteArray) (A3 : Option Addr) (c3 : Nat) (l3 : List ByteArray) (r1 : List ByteArray) (r2 : Int) (w : World) (hr3 : Kd.C Kd.string w A3 l3.length l3) (hc3 : l3.length ≤ c3) (h : cartoucheref03_Climb.f k a0 a1 a2 l3 = some (r1, r2)) :
    Calls Tryd.prog 27 #[.int .i64 a0, .int .i64 a1, .string a2, .slice A3 l3.length c3] w fun e w' => ∃ v0_ : Value, e = .returned (.tuple #[v0_, .int .i64 r2]) ∧ Kd.R Kd.string 9 w' w.heap.size (fun _ => True) v0_ r1 ∧ Below w.heap.size w w' := by
  have HR3 := Aside0.mk hr3
  have HC3 := Aside0.mk hc3
  clear hr3 hc3
  have HB := Aside0.mk (Below.refl w.heap.size w)
  have H : (if a0 < 1 then (cartoucheref03_Climb.j0 k a0 a1 a2 l3 true) else (if a0 > 4096 then (cartoucheref03_Climb.j0 k a0 a1 a2 l3 true) else (if a1 < 0 then (cartoucheref03_Climb.j0 k a0 a1 a2 l3 true) else (cartoucheref03_Climb.j0 k a0 a1 a2 l3 (decide (a1 ≥ a0)))))) = some (r1, r2) := h
  clear h
  have HC5 := Aside0.mk H
  clear H
  go_enter Tryd.func27, Tryd.ntmps27
  go_upto_region 1 with (fail)
  go_cut [27] (fun v27 wc => ∃ (kq : Nat) (x27_4 : Bool), v27 = .bool x27_4 ∧ Aside0 (cartoucheref03_Climb.j0 kq a0 a1 a2 l3 x27_4 = some (r1, r2)) ∧ Aside0 (kq ≤ k) ∧ Aside0 (Below w.heap.size w wc))
  case first =>
    have H := HC5.out
    clear HC5
    by_cases c6 : a0 < 1
    · rw [if_pos c6] at H
      have c6b0 : decide (a0 < 1) = true := decide_eq_true c6
      clear c6
      (first | rw [c6b0] | (simp only [i64_w, i32_w]; rw [c6b0]) | skip)
      have H' := Aside0.mk H
      clear H
      go_wp2
      go_meet
      case rel => exact ⟨_, (true), (by first | rfl | (simp; done) | (simp [*]; done)), H', ⟨by first | omega | exact Nat.le_refl _⟩, ⟨by repeat (first | (with_reducible first | exact HB.out | apply below_alloc | apply pw_below_drewN | apply below_drew1) | exact HB.out)⟩⟩
    · rw [if_neg c6] at H
      have c6b0 : decide (a0 < 1) = false := decide_eq_false c6
      clear c6
      (first | rw [c6b0] | (simp only [i64_w, i32_w]; rw [c6b0]) | skip)
      by_cases c7 : a0 > 4096
      · rw [if_pos c7] at H
        have c7b0 : decide (4096 < a0) = true := decide_eq_true c7
        clear c7
        have H' := Aside0.mk H
        clear H
        go_wp2
        go_meet
        case rel => exact ⟨_, (true), (by first | rfl | (simp; done) | (simp [*]; done)), H', ⟨by first | omega | exact Nat.le_refl _⟩, ⟨by repeat (first | (with_reducible first | exact HB.out | apply below_alloc | apply pw_below_drewN | apply below_drew1) | exact HB.out)⟩⟩
      · rw [if_neg c7] at H
        have c7b0 : decide (4096 < a0) = false := decide_eq_false c7
        clear c7
        by_cases c8 : a1 < 0
        · rw [if_pos c8] at H
          have c8b0 : decide (a1 < 0) = true := decide_eq_true c8
          clear c8
          have H' := Aside0.mk H
          clear H
          go_wp2
          go_meet
          case rel => exact ⟨_, (true), (by first | rfl | (simp; done) | (simp [*]; done)), H', ⟨by first | omega | exact Nat.le_refl _⟩, ⟨by repeat (first | (with_reducible first | exact HB.out | apply below_alloc | apply pw_below_drewN | apply below_drew1) | exact HB.out)⟩⟩
        · rw [if_neg c8] at H
          have c8b0 : decide (a1 < 0) = false := decide_eq_false c8
          clear c8
          have H' := Aside0.mk H
          clear H
          go_wp2
          go_meet
          case rel => exact ⟨_, (decide (a1 ≥ a0)), (by first | rfl | (simp; done) | (simp [*]; done)), H', ⟨by first | omega | exact Nat.le_refl _⟩, ⟨by repeat (first | (with_reducible first | exact HB.out | apply below_alloc | apply pw_below_drewN | apply below_drew1) | exact HB.out)⟩⟩
  case rest =>
    clear HC5
    try clear c2
    try clear p2
    try clear c3
    try clear c6
    try clear c6b0
    try clear c7
    try clear c7b0
    try clear c8
    try clear c8b0
    obtain ⟨kq, x27_4, rfl, HA, HJ4, HB⟩ := hcut
    cases kq with
    | zero => exact absurd HA.out (by simp [cartoucheref03_Climb.j0])
    | succ kj4 =>
      have H := HA.out
      clear HA
      simp only [cartoucheref03_Climb.j0] at H
      by_cases c9 : x27_4 = true
      · subst c9
        have H1 : (some (([] : List ByteArray), 1)) = some (r1, r2) := by rw [if_pos rfl] at H; exact H
        clear H
        have H := H1
        clear H1
        simp only [Option.some.injEq, Prod.mk.injEq] at H
        obtain ⟨rfl, rfl⟩ := H
        go_wp2
        go_ret2
        exact ⟨_, by first | rfl | (simp [errW_none, errW_some] <;> rfl) | (simp [*, errW_none, errW_some] <;> rfl), by first | exact Kd.R_nil _ _ _ _ _ | exact Kd.N_nil _ _ _ _ _ | exact Kd.V_nil _ _ _ _ _ | exact Kd.Q_nil _ _ _ _ _ | exact Kd.S_nil _ _ _ _ _, by repeat (first | (with_reducible first | exact HB.out | apply below_alloc | apply pw_below_drewN | apply below_drew1) | exact HB.out)⟩
      · replace c9 := Bool.eq_false_iff.mpr c9
        subst c9
        have H1 : (cartoucheref03_Climb.l0 kj4 a0 a1 a2 l3 0) = some (r1, r2) := by rw [if_neg (show ¬ (false = true) by decide)] at H; exact H
        clear H
        have H := H1
        clear H1
        have H' := Aside0.mk H
        clear H
        go_wp2
        go_loopg [10] kj4 (fun kq v10 w' => ∃ (x10_2 : Int), v10 = .int .i64 x10_2 ∧ Aside0 (cartoucheref03_Climb.l0 kq a0 a1 a2 l3 x10_2 = some (r1, r2)) ∧ Aside0 (kq ≤ kj4) ∧ Aside0 (Below w.heap.size w w'))
        case atStart => exact ⟨(0), (by first | rfl | (simp; done) | (simp [*]; done)), H', ⟨Nat.le_refl _⟩, ⟨by repeat (first | (with_reducible first | exact HB.out | apply below_alloc | apply pw_below_drewN | apply below_drew1) | exact HB.out)⟩⟩
        case round =>
          clear H'
          try clear c2
          try clear p2
          try clear c3
          try clear c6
          try clear c6b0
          try clear c7
          try clear c7b0
          try clear c8
          try clear c8b0
          try clear c9
          try clear p2
          obtain ⟨x10_2, rfl, HA, HK2, HB⟩ := hrel
          cases gk with
          | zero => exact absurd HA.out (by simp [cartoucheref03_Climb.l0])
          | succ k2 =>
            have H := HA.out
            clear HA
            simp only [cartoucheref03_Climb.l0] at H
            by_cases c10 : x10_2 < (l3.length : Int)
            · rw [if_pos c10] at H
              have c10b0 : decide (x10_2 < (l3.length : Int)) = true := decide_eq_true c10
              clear c10
              by_cases c11 : 0 ≤ x10_2
              · rw [if_pos c11] at H
                have c11b0 : decide (0 ≤ x10_2) = true := decide_eq_true c11
                clear c11
                by_cases c12 : ((rdOf ByteArray.empty l3 x10_2).size : Int) = 32
                · rw [if_pos c12] at H
                  have c12b0 : (((rdOf ByteArray.empty l3 x10_2).size : Int) == 32) = true := beq_iff_eq.mpr c12
                  have c12b1 : (((rdOf ByteArray.empty l3 x10_2).size : Int) != 32) = false := bne_eq_false_iff_eq.mpr c12
                  clear c12
                  have H' := Aside0.mk H
                  clear H
                  have p269 : 0 ≤ (x10_2 : Int) := of_decide_eq_true (by first | (with_reducible assumption) | assumption)
                  have q269 : x10_2 < (l3.length : Int) := of_decide_eq_true (by first | (with_reducible assumption) | assumption)
                  obtain ⟨ad269, e269, hx269_0⟩ := Kd.at_string HR3.out x10_2 p269 q269
                  cases e269
                  replace hx269_0 := (HB.out.cell (World.block_lt_of_cell? w _ hx269_0)).trans hx269_0
                  replace p269 := eq_true p269
                  replace q269 := eq_true q269
                  go_wp2
                  go_roundg k2
                  case measure => have := HJ4.out; have := HK2.out; omega
                  case rel => exact ⟨(wrap64 (x10_2 + 1)), (by first | rfl | (simp; done) | (simp [*]; done)), H', ⟨by have := HJ4.out; have := HK2.out; omega⟩, ⟨by repeat (first | (with_reducible first | exact HB.out | apply below_alloc | apply pw_below_drewN | apply below_drew1) | exact HB.out)⟩⟩
                · rw [if_neg c12] at H
                  have c12b0 : (((rdOf ByteArray.empty l3 x10_2).size : Int) == 32) = false := beq_eq_false_iff_ne.mpr c12
                  have c12b1 : (((rdOf ByteArray.empty l3 x10_2).size : Int) != 32) = true := bne_iff_ne.mpr c12
                  simp only [Option.some.injEq, Prod.mk.injEq] at H
                  obtain ⟨rfl, rfl⟩ := H
                  have p269 : 0 ≤ (x10_2 : Int) := of_decide_eq_true (by first | (with_reducible assumption) | assumption)
                  have q269 : x10_2 < (l3.length : Int) := of_decide_eq_true (by first | (with_reducible assumption) | assumption)
                  obtain ⟨ad269, e269, hx269_0⟩ := Kd.at_string HR3.out x10_2 p269 q269
                  cases e269
                  replace hx269_0 := (HB.out.cell (World.block_lt_of_cell? w _ hx269_0)).trans hx269_0
                  replace p269 := eq_true p269
                  replace q269 := eq_true q269
                  go_wp2
                  go_ret2
                  exact ⟨_, by first | rfl | (simp [errW_none, errW_some] <;> rfl) | (simp [*, errW_none, errW_some] <;> rfl), by first | exact Kd.R_nil _ _ _ _ _ | exact Kd.N_nil _ _ _ _ _ | exact Kd.V_nil _ _ _ _ _ | exact Kd.Q_nil _ _ _ _ _ | exact Kd.S_nil _ _ _ _ _, by repeat (first | (with_reducible first | exact HB.out | apply below_alloc | apply pw_below_drewN | apply below_drew1) | exact HB.out)⟩
              · rw [if_neg c11] at H
                exact absurd H (by simp)
            · rw [if_neg c10] at H
              have c10b0 : decide (x10_2 < (l3.length : Int)) = false := decide_eq_false c10
              clear c10
              replace H := Option.bind_eq_some_iff.mp H
              obtain ⟨⟨t270, t271⟩, A130, H⟩ := H
              replace H : (if t271 = true then (if 0 ≤ (wrap64 ((t270.length : Int) - 1)) then (if (wrap64 ((t270.length : Int) - 1)) < (t270.length : Int) then ((cartoucheref02_Sum.f (rdOf ByteArray.empty t270 (wrap64 ((t270.length : Int) - 1)))).bind fun t275 => ((cartoucheref03_RootIn.f k2 a0 t275).bind fun t276 => (if t270.length < 8796093022208 then (some ((t270 ++ [t276]), 0)) else (none)))) else (none)) else (none)) else (some (([] : List ByteArray), 14))) = some (r1, r2) := H
              have A13 := Aside0.mk A130
              clear A130
              by_cases c14 : t271 = true
              · subst c14
                have H1 : (if 0 ≤ (wrap64 ((t270.length : Int) - 1)) then (if (wrap64 ((t270.length : Int) - 1)) < (t270.length : Int) then ((cartoucheref02_Sum.f (rdOf ByteArray.empty t270 (wrap64 ((t270.length : Int) - 1)))).bind fun t275 => ((cartoucheref03_RootIn.f k2 a0 t275).bind fun t276 => (if t270.length < 8796093022208 then (some ((t270 ++ [t276]), 0)) else (none)))) else (none)) else (none)) = some (r1, r2) := by rw [if_pos rfl] at H; exact H
                clear H
                have H := H1
                clear H1
                obtain ⟨ji15, hji15⟩ : ∃ j_ : Int, (wrap64 ((t270.length : Int) - 1)) = j_ := ⟨_, rfl⟩
                replace H : (if 0 ≤ (ji15) then (if (ji15) < (t270.length : Int) then ((cartoucheref02_Sum.f (rdOf ByteArray.empty t270 (ji15))).bind fun t275 => ((cartoucheref03_RootIn.f k2 a0 t275).bind fun t276 => (if t270.length < 8796093022208 then (some ((t270 ++ [t276]), 0)) else (none)))) else (none)) else (none)) = some (r1, r2) := by first | (rw [hji15] at H; exact H) | (simp only [hji15] at H ⊢; exact H)
                (try rw [hji15] at A13)
                have hji15w : (IntKind.i64.wrap ((t270.length : Int) - 1)) = ji15 := (i64_w _).trans hji15
                by_cases c16 : 0 ≤ (ji15)
                · rw [if_pos c16] at H
                  have c16b0 : decide (0 ≤ (ji15)) = true := decide_eq_true c16
                  clear c16
                  by_cases c17 : (ji15) < (t270.length : Int)
                  · rw [if_pos c17] at H
                    have c17b0 : decide ((ji15) < (t270.length : Int)) = true := decide_eq_true c17
                    clear c17
                    replace H := Option.bind_eq_some_iff.mp H
                    obtain ⟨t275, A180, H⟩ := H
                    replace H : ((cartoucheref03_RootIn.f k2 a0 t275).bind fun t276 => (if t270.length < 8796093022208 then (some ((t270 ++ [t276]), 0)) else (none))) = some (r1, r2) := H
                    have A18 := Aside0.mk A180
                    clear A180
                    replace H := Option.bind_eq_some_iff.mp H
                    obtain ⟨t276, A190, H⟩ := H
                    replace H : (if t270.length < 8796093022208 then (some ((t270 ++ [t276]), 0)) else (none)) = some (r1, r2) := H
                    have A19 := Aside0.mk A190
                    clear A190
                    by_cases c20 : t270.length < 8796093022208
                    · rw [if_pos c20] at H
                      have LMc20 := Aside0.mk c20
                      clear c20
                      obtain ⟨y277, hy277⟩ : ∃ y_ : List ByteArray, y_ = (t270 ++ [t276]) := ⟨_, rfl⟩
                      replace H : (some (y277, 0)) = some (r1, r2) := by first | (rw [hy277]; with_reducible exact H) | (have H2_ := (Option.bind_some _ _).symm.trans H; rw [hy277]; with_reducible exact H2_) | (have H2_ := (Option.bind_some _ _).symm.trans H; with_reducible exact H2_) | with_reducible exact H | (rw [hy277]; exact H) | exact H
                      have Ny277 := Aside0.mk hy277
                      clear hy277
                      simp only [Option.some.injEq, Prod.mk.injEq] at H
                      obtain ⟨rfl, rfl⟩ := H
                      go_wp2_with (first | ((with_reducible refine look_callee (f := 54) rfl ?_); refine goesL_ (some 45) rfl rfl Tryd.func54 (by kernel_rfl) rfl #[.int .i64 a0, .int .i64 a1, .string a2, .slice A3 l3.length c3] rfl (by (try simp only [List.map_toArray, List.map_cons, List.map_nil]); first | done | rfl | (simp only [List.length_drop, List.length_take]; rfl)) ?_; (with_reducible refine (cartoucheref03_inputs.calls k2 a0 a1 a2 _ _ l3 t270 true _ ?side1 ?side2 A13.out).mono ?_); (case side1 => repeat (first | exact (Kd.C_below HR3.out HB.out) | (with_reducible refine Kd.C_alloc ?_ _) | (with_reducible refine Kd.C_drewN ?_ _) | (with_reducible refine Kd.C_drew ?_))); (case side2 => exact HC3.out); rintro e w21 ⟨v272, rfl, ho0, hb⟩; refine ⟨_, rfl, ?_⟩; have n0_ := Aside0.mk (Kd.R_lower ho0 (below_size (by repeat (first | (with_reducible first | exact HB.out | apply below_alloc | apply pw_below_drewN | apply below_drew1) | exact HB.out)))); have n1_ := Aside0.mk (below_step (by repeat (first | (with_reducible first | exact HB.out | apply below_alloc | apply pw_below_drewN | apply below_drew1) | exact HB.out)) hb); clear HB; have HO273 := n0_; have HB := n1_; clear n0_ n1_; (try clear hb); (try clear hb2); (try clear hk); (try clear hi); (try clear ho0); obtain ⟨Ao22, co22, eo22⟩ := Kd.R_slice HO273.out; subst eo22; have p274 : 0 ≤ ((ji15) : Int) := of_decide_eq_true (by first | (with_reducible assumption) | assumption); have q274 : (ji15) < (t270.length : Int) := of_decide_eq_true (by first | (with_reducible assumption) | assumption); obtain ⟨ad274, e274, hx274_0⟩ := Kd.at_string (Kd.R_reads' HO273.out).2.2 (ji15) p274 q274; cases e274; replace p274 := eq_true p274; replace q274 := eq_true q274) | ((with_reducible refine look_callee (f := 24) rfl ?_); refine goesL_ (some 58) rfl rfl Tryd.func24 (by kernel_rfl) rfl #[.string (rdOf ByteArray.empty t270 (ji15))] rfl (by (try simp only [List.map_toArray, List.map_cons, List.map_nil]); first | done | (simp only [hji15]; rfl) | rfl | (simp only [List.length_drop, List.length_take]; rfl)) ?_; (with_reducible refine (cartoucheref02_Sum.calls (rdOf ByteArray.empty t270 (ji15)) t275 _ A18.out).mono ?_); rintro e w23 ⟨rfl, hb⟩; refine ⟨_, rfl, ?_⟩; have n0_ := Aside0.mk (Kd.R_below (by (with_reducible repeat (first | apply Kd.R_alloc | apply Kd.R_drewN | apply Kd.R_drew)); exact HO273.out) hb); have n1_ := Aside0.mk (below_step (by repeat (first | (with_reducible first | exact HB.out | apply below_alloc | apply pw_below_drewN | apply below_drew1) | exact HB.out)) hb); clear HO273; clear HB; have HO273 := n0_; have HB := n1_; clear n0_ n1_; (try clear hb); (try clear hb2); (try clear hk); (try clear hi)) | ((with_reducible refine look_callee (f := 37) rfl ?_); refine goesL_ (some 59) rfl rfl Tryd.func37 (by kernel_rfl) rfl #[.int .i64 a0, .string t275] rfl (by (try simp only [List.map_toArray, List.map_cons, List.map_nil]); first | done | rfl | (simp only [List.length_drop, List.length_take]; rfl)) ?_; (with_reducible refine (cartoucheref03_RootIn.calls k2 a0 t275 t276 _ A19.out).mono ?_); rintro e w24 ⟨rfl, hb⟩; refine ⟨_, rfl, ?_⟩; have n0_ := Aside0.mk (Kd.R_below (by (with_reducible repeat (first | apply Kd.R_alloc | apply Kd.R_drewN | apply Kd.R_drew)); exact HO273.out) hb); have n1_ := Aside0.mk (below_step (by repeat (first | (with_reducible first | exact HB.out | apply below_alloc | apply pw_below_drewN | apply below_drew1) | exact HB.out)) hb); clear HO273; clear HB; have HO273 := n0_; have HB := n1_; clear n0_ n1_; (try clear hb); (try clear hb2); (try clear hk); (try clear hi)) | ((with_reducible refine look_builtin (b := .append) (xs := #[.tmp 50, .tmp 60]) rfl ?_); at_builtin; refine Kd.R_append Kd.string (w0 := w) w.heap.size rfl (.tmp 50) (.tmp 60) 22 9 (.string ⟨#[]⟩) 16 rfl Tryd.underlying22 info9 rfl (by decide) (by omega) (.slice (some ad274) t270.length co22) t270 t276 [.string t276] (fun _ => True) (fun _ => False) rfl rfl ?aP (fun _ hk => hk.elim) ?aF ?aO ?aB ?aS ?aL ?_; (case aP => exact rfl); (case aB => exact (by repeat (first | (with_reducible first | exact HB.out | apply below_alloc | apply pw_below_drewN | apply below_drew1) | exact HB.out))); (case aF => exact (fun _ _ => trivial)); (case aO => exact (by (with_reducible repeat (first | apply Kd.R_alloc | apply Kd.R_drewN | apply Kd.R_drew)); exact HO273.out)); (case aS => exact (below_size (by repeat (first | (with_reducible first | exact HB.out | apply below_alloc | apply pw_below_drewN | apply below_drew1) | exact HB.out)))); (case aL => have := LMc20.out; omega); intro v278 w25 ho hb hg hat; rw [← Ny277.out] at ho; have n0_ := Aside0.mk (hb); have n1_ := Aside0.mk (ho); clear HB; clear HO273; have HB := n0_; have HO279 := n1_; clear n0_ n1_; clear ho hb hg hat))
                      go_ret2
                      exact ⟨_, by first | rfl | (simp [errW_none, errW_some] <;> rfl) | (simp only [← hji15]; first | rfl | (simp [errW_none, errW_some] <;> rfl)) | (simp [*, errW_none, errW_some] <;> rfl), by (with_reducible repeat (first | apply Kd.R_alloc | apply Kd.R_drewN | apply Kd.R_drew)); exact HO279.out, by repeat (first | (with_reducible first | exact HB.out | apply below_alloc | apply pw_below_drewN | apply below_drew1) | exact HB.out)⟩
                    · rw [if_neg c20] at H
                      exact absurd H (by simp)
                  · rw [if_neg c17] at H
                    exact absurd H (by simp)
                · rw [if_neg c16] at H
                  exact absurd H (by simp)
              · replace c14 := Bool.eq_false_iff.mpr c14
                subst c14
                have H1 : (some (([] : List ByteArray), 14)) = some (r1, r2) := by rw [if_neg (show ¬ (false = true) by decide)] at H; exact H
                clear H
                have H := H1
                clear H1
                simp only [Option.some.injEq, Prod.mk.injEq] at H
                obtain ⟨rfl, rfl⟩ := H
                go_wp2_with (first | ((with_reducible refine look_callee (f := 54) rfl ?_); refine goesL_ (some 45) rfl rfl Tryd.func54 (by kernel_rfl) rfl #[.int .i64 a0, .int .i64 a1, .string a2, .slice A3 l3.length c3] rfl (by (try simp only [List.map_toArray, List.map_cons, List.map_nil]); first | done | rfl | (simp only [List.length_drop, List.length_take]; rfl)) ?_; (with_reducible refine (cartoucheref03_inputs.calls k2 a0 a1 a2 _ _ l3 t270 false _ ?side1 ?side2 A13.out).mono ?_); (case side1 => repeat (first | exact (Kd.C_below HR3.out HB.out) | (with_reducible refine Kd.C_alloc ?_ _) | (with_reducible refine Kd.C_drewN ?_ _) | (with_reducible refine Kd.C_drew ?_))); (case side2 => exact HC3.out); rintro e w26 ⟨v272, rfl, ho0, hb⟩; refine ⟨_, rfl, ?_⟩; have n0_ := Aside0.mk (Kd.R_lower ho0 (below_size (by repeat (first | (with_reducible first | exact HB.out | apply below_alloc | apply pw_below_drewN | apply below_drew1) | exact HB.out)))); have n1_ := Aside0.mk (below_step (by repeat (first | (with_reducible first | exact HB.out | apply below_alloc | apply pw_below_drewN | apply below_drew1) | exact HB.out)) hb); clear HB; have HO273 := n0_; have HB := n1_; clear n0_ n1_; (try clear hb); (try clear hb2); (try clear hk); (try clear hi); (try clear ho0)))
                go_ret2
                exact ⟨_, by first | rfl | (simp [errW_none, errW_some] <;> rfl) | (simp [*, errW_none, errW_some] <;> rfl), by first | exact Kd.R_nil _ _ _ _ _ | exact Kd.N_nil _ _ _ _ _ | exact Kd.V_nil _ _ _ _ _ | exact Kd.Q_nil _ _ _ _ _ | exact Kd.S_nil _ _ _ _ _, by repeat (first | (with_reducible first | exact HB.out | apply below_alloc | apply pw_below_drewN | apply below_drew1) | exact HB.out)⟩

/-! ### tree_Check: function 28 -/
def tree_Check.f (a0 : ByteArray) (a1 : Int) (a2 : Int) (a3 : ByteArray) (l4 : List ByteArray) : Option (Int) := (tree_Climb.f a1 a2 a3 l4).bind fun bt280 => (if bt280.2 = 0 then (if 0 ≤ (wrap64 ((bt280.1.length : Int) - 1)) then (if (wrap64 ((bt280.1.length : Int) - 1)) < (bt280.1.length : Int) then ((blake_Sum.f (rdOf ByteArray.empty bt280.1 (wrap64 ((bt280.1.length : Int) - 1)))).bind fun t285 => (if t285.toList = a0.toList then (some 0) else (some 13))) else (none)) else (none)) else (some bt280.2))
set_option maxHeartbeats 8000000 in
set_option maxRecDepth 100000 in
theorem tree_Check.calls (a0 : ByteArray) (a1 : Int) (a2 : Int) (a3 : ByteArray) (A4 : Option Addr) (c4 : Nat) (l4 : List ByteArray) (r : Int) (w : World) (hT : Tabs w) (hr4 : Kd.C Kd.string w A4 l4.length l4) (hc4 : l4.length ≤ c4) (h : tree_Check.f a0 a1 a2 a3 l4 = some r) :
    Calls Tryd.prog 28 #[.string a0, .int .i64 a1, .int .i64 a2, .string a3, .slice A4 l4.length c4] w fun e w' => e = .returned (.int .i64 r) ∧ Below w.heap.size w w' := by
  have HR4 := Aside0.mk hr4
  have HC4 := Aside0.mk hc4
  clear hr4 hc4
  have HB := Aside0.mk (Below.refl w.heap.size w)
  have H : ((tree_Climb.f a1 a2 a3 l4).bind fun bt280 => (if bt280.2 = 0 then (if 0 ≤ (wrap64 ((bt280.1.length : Int) - 1)) then (if (wrap64 ((bt280.1.length : Int) - 1)) < (bt280.1.length : Int) then ((blake_Sum.f (rdOf ByteArray.empty bt280.1 (wrap64 ((bt280.1.length : Int) - 1)))).bind fun t285 => (if t285.toList = a0.toList then (some 0) else (some 13))) else (none)) else (none)) else (some bt280.2))) = some r := h
  clear h
  replace H := Option.bind_eq_some_iff.mp H
  obtain ⟨⟨t280, t281⟩, A60, H⟩ := H
  replace H : (if t281 = 0 then (if 0 ≤ (wrap64 ((t280.length : Int) - 1)) then (if (wrap64 ((t280.length : Int) - 1)) < (t280.length : Int) then ((blake_Sum.f (rdOf ByteArray.empty t280 (wrap64 ((t280.length : Int) - 1)))).bind fun t285 => (if t285.toList = a0.toList then (some 0) else (some 13))) else (none)) else (none)) else (some t281)) = some r := H
  have A6 := Aside0.mk A60
  clear A60
  by_cases c7 : t281 = 0
  · rw [if_pos c7] at H
    have c7b0 : (t281 == 0) = true := beq_iff_eq.mpr c7
    have c7b1 : (t281 != 0) = false := bne_eq_false_iff_eq.mpr c7
    clear c7
    obtain ⟨ji8, hji8⟩ : ∃ j_ : Int, (wrap64 ((t280.length : Int) - 1)) = j_ := ⟨_, rfl⟩
    replace H : (if 0 ≤ (ji8) then (if (ji8) < (t280.length : Int) then ((blake_Sum.f (rdOf ByteArray.empty t280 (ji8))).bind fun t285 => (if t285.toList = a0.toList then (some 0) else (some 13))) else (none)) else (none)) = some r := by first | (rw [hji8] at H; exact H) | (simp only [hji8] at H ⊢; exact H)
    (try rw [hji8] at A6)
    have hji8w : (IntKind.i64.wrap ((t280.length : Int) - 1)) = ji8 := (i64_w _).trans hji8
    by_cases c9 : 0 ≤ (ji8)
    · rw [if_pos c9] at H
      have c9b0 : decide (0 ≤ (ji8)) = true := decide_eq_true c9
      clear c9
      by_cases c10 : (ji8) < (t280.length : Int)
      · rw [if_pos c10] at H
        have c10b0 : decide ((ji8) < (t280.length : Int)) = true := decide_eq_true c10
        clear c10
        replace H := Option.bind_eq_some_iff.mp H
        obtain ⟨t285, A110, H⟩ := H
        replace H : (if t285.toList = a0.toList then (some 0) else (some 13)) = some r := H
        have A11 := Aside0.mk A110
        clear A110
        by_cases c12 : t285.toList = a0.toList
        · rw [if_pos c12] at H
          have c12b0 : (t285.toList == a0.toList) = true := beq_iff_eq.mpr c12
          have c12b1 : (t285.toList != a0.toList) = false := bne_eq_false_iff_eq.mpr c12
          clear c12
          obtain rfl := Option.some.inj H
          go_enter Tryd.func28, Tryd.ntmps28
          go_wp2_with (first | ((with_reducible refine look_callee (f := 25) rfl ?_); refine goesL_ (some 18) rfl rfl Tryd.func25 (by kernel_rfl) rfl #[.int .i64 a1, .int .i64 a2, .string a3, .slice A4 l4.length c4] rfl (by (try simp only [List.map_toArray, List.map_cons, List.map_nil]); first | done | rfl | (simp only [List.length_drop, List.length_take]; rfl)) ?_; (with_reducible refine (tree_Climb.calls a1 a2 a3 _ _ l4 t280 t281 _ ?side1 ?side2 ?side3 A6.out).mono ?_); (case side1 => exact hT.below (by repeat (first | (with_reducible first | exact HB.out | apply below_alloc | apply pw_below_drewN | apply below_drew1) | exact HB.out)) hT.size); (case side2 => repeat (first | exact HR4.out | (with_reducible refine Kd.C_alloc ?_ _) | (with_reducible refine Kd.C_drewN ?_ _) | (with_reducible refine Kd.C_drew ?_))); (case side3 => exact HC4.out); rintro e w13 ⟨v282, rfl, ho0, hb⟩; refine ⟨_, rfl, ?_⟩; have n0_ := Aside0.mk (Kd.R_lower ho0 (below_size (by repeat (first | (with_reducible first | exact HB.out | apply below_alloc | apply pw_below_drewN | apply below_drew1) | exact HB.out)))); have n1_ := Aside0.mk (below_step (by repeat (first | (with_reducible first | exact HB.out | apply below_alloc | apply pw_below_drewN | apply below_drew1) | exact HB.out)) hb); clear HB; have HO283 := n0_; have HB := n1_; clear n0_ n1_; (try clear hb); (try clear hb2); (try clear hk); (try clear hi); (try clear ho0); obtain ⟨Ao14, co14, eo14⟩ := Kd.R_slice HO283.out; subst eo14; have p284 : 0 ≤ ((ji8) : Int) := of_decide_eq_true (by first | (with_reducible assumption) | assumption); have q284 : (ji8) < (t280.length : Int) := of_decide_eq_true (by first | (with_reducible assumption) | assumption); obtain ⟨ad284, e284, hx284_0⟩ := Kd.at_string (Kd.R_reads' HO283.out).2.2 (ji8) p284 q284; cases e284; replace p284 := eq_true p284; replace q284 := eq_true q284) | ((with_reducible refine look_callee (f := 26) rfl ?_); refine goesL_ (some 32) rfl rfl Tryd.func26 (by kernel_rfl) rfl #[.string (rdOf ByteArray.empty t280 (ji8))] rfl (by (try simp only [List.map_toArray, List.map_cons, List.map_nil]); first | done | (simp only [hji8]; rfl) | rfl | (simp only [List.length_drop, List.length_take]; rfl)) ?_; (with_reducible refine (blake_Sum.calls (rdOf ByteArray.empty t280 (ji8)) t285 _ ?side1 A11.out).mono ?_); (case side1 => exact hT.below (by repeat (first | (with_reducible first | exact HB.out | apply below_alloc | apply pw_below_drewN | apply below_drew1) | exact HB.out)) hT.size); rintro e w15 ⟨rfl, hb⟩; refine ⟨_, rfl, ?_⟩; have n0_ := Aside0.mk (Kd.R_below (by (with_reducible repeat (first | apply Kd.R_alloc | apply Kd.R_drewN | apply Kd.R_drew)); exact HO283.out) hb); have n1_ := Aside0.mk (below_step (by repeat (first | (with_reducible first | exact HB.out | apply below_alloc | apply pw_below_drewN | apply below_drew1) | exact HB.out)) hb); clear HO283; clear HB; have HO283 := n0_; have HB := n1_; clear n0_ n1_; (try clear hb); (try clear hb2); (try clear hk); (try clear hi)))
          go_ret
          exact ⟨by first | rfl | (simp [errW_none, errW_some] <;> rfl) | (simp only [← hji8]; first | rfl | (simp [errW_none, errW_some] <;> rfl)) | (simp [*, errW_none, errW_some] <;> rfl), by repeat (first | (with_reducible first | exact HB.out | apply below_alloc | apply pw_below_drewN | apply below_drew1) | exact HB.out)⟩
        · rw [if_neg c12] at H
          have c12b0 : (t285.toList == a0.toList) = false := beq_eq_false_iff_ne.mpr c12
          have c12b1 : (t285.toList != a0.toList) = true := bne_iff_ne.mpr c12
          obtain rfl := Option.some.inj H
          go_enter Tryd.func28, Tryd.ntmps28
          go_wp2_with (first | ((with_reducible refine look_callee (f := 25) rfl ?_); refine goesL_ (some 18) rfl rfl Tryd.func25 (by kernel_rfl) rfl #[.int .i64 a1, .int .i64 a2, .string a3, .slice A4 l4.length c4] rfl (by (try simp only [List.map_toArray, List.map_cons, List.map_nil]); first | done | rfl | (simp only [List.length_drop, List.length_take]; rfl)) ?_; (with_reducible refine (tree_Climb.calls a1 a2 a3 _ _ l4 t280 t281 _ ?side1 ?side2 ?side3 A6.out).mono ?_); (case side1 => exact hT.below (by repeat (first | (with_reducible first | exact HB.out | apply below_alloc | apply pw_below_drewN | apply below_drew1) | exact HB.out)) hT.size); (case side2 => repeat (first | exact HR4.out | (with_reducible refine Kd.C_alloc ?_ _) | (with_reducible refine Kd.C_drewN ?_ _) | (with_reducible refine Kd.C_drew ?_))); (case side3 => exact HC4.out); rintro e w16 ⟨v282, rfl, ho0, hb⟩; refine ⟨_, rfl, ?_⟩; have n0_ := Aside0.mk (Kd.R_lower ho0 (below_size (by repeat (first | (with_reducible first | exact HB.out | apply below_alloc | apply pw_below_drewN | apply below_drew1) | exact HB.out)))); have n1_ := Aside0.mk (below_step (by repeat (first | (with_reducible first | exact HB.out | apply below_alloc | apply pw_below_drewN | apply below_drew1) | exact HB.out)) hb); clear HB; have HO283 := n0_; have HB := n1_; clear n0_ n1_; (try clear hb); (try clear hb2); (try clear hk); (try clear hi); (try clear ho0); obtain ⟨Ao17, co17, eo17⟩ := Kd.R_slice HO283.out; subst eo17; have p284 : 0 ≤ ((ji8) : Int) := of_decide_eq_true (by first | (with_reducible assumption) | assumption); have q284 : (ji8) < (t280.length : Int) := of_decide_eq_true (by first | (with_reducible assumption) | assumption); obtain ⟨ad284, e284, hx284_0⟩ := Kd.at_string (Kd.R_reads' HO283.out).2.2 (ji8) p284 q284; cases e284; replace p284 := eq_true p284; replace q284 := eq_true q284) | ((with_reducible refine look_callee (f := 26) rfl ?_); refine goesL_ (some 32) rfl rfl Tryd.func26 (by kernel_rfl) rfl #[.string (rdOf ByteArray.empty t280 (ji8))] rfl (by (try simp only [List.map_toArray, List.map_cons, List.map_nil]); first | done | (simp only [hji8]; rfl) | rfl | (simp only [List.length_drop, List.length_take]; rfl)) ?_; (with_reducible refine (blake_Sum.calls (rdOf ByteArray.empty t280 (ji8)) t285 _ ?side1 A11.out).mono ?_); (case side1 => exact hT.below (by repeat (first | (with_reducible first | exact HB.out | apply below_alloc | apply pw_below_drewN | apply below_drew1) | exact HB.out)) hT.size); rintro e w18 ⟨rfl, hb⟩; refine ⟨_, rfl, ?_⟩; have n0_ := Aside0.mk (Kd.R_below (by (with_reducible repeat (first | apply Kd.R_alloc | apply Kd.R_drewN | apply Kd.R_drew)); exact HO283.out) hb); have n1_ := Aside0.mk (below_step (by repeat (first | (with_reducible first | exact HB.out | apply below_alloc | apply pw_below_drewN | apply below_drew1) | exact HB.out)) hb); clear HO283; clear HB; have HO283 := n0_; have HB := n1_; clear n0_ n1_; (try clear hb); (try clear hb2); (try clear hk); (try clear hi)))
          go_ret
          exact ⟨by first | rfl | (simp [errW_none, errW_some] <;> rfl) | (simp only [← hji8]; first | rfl | (simp [errW_none, errW_some] <;> rfl)) | (simp [*, errW_none, errW_some] <;> rfl), by repeat (first | (with_reducible first | exact HB.out | apply below_alloc | apply pw_below_drewN | apply below_drew1) | exact HB.out)⟩
      · rw [if_neg c10] at H
        exact absurd H (by simp)
    · rw [if_neg c9] at H
      exact absurd H (by simp)
  · rw [if_neg c7] at H
    have c7b0 : (t281 == 0) = false := beq_eq_false_iff_ne.mpr c7
    have c7b1 : (t281 != 0) = true := bne_iff_ne.mpr c7
    obtain rfl := Option.some.inj H
    go_enter Tryd.func28, Tryd.ntmps28
    go_wp2_with (first | ((with_reducible refine look_callee (f := 25) rfl ?_); refine goesL_ (some 18) rfl rfl Tryd.func25 (by kernel_rfl) rfl #[.int .i64 a1, .int .i64 a2, .string a3, .slice A4 l4.length c4] rfl (by (try simp only [List.map_toArray, List.map_cons, List.map_nil]); first | done | rfl | (simp only [List.length_drop, List.length_take]; rfl)) ?_; (with_reducible refine (tree_Climb.calls a1 a2 a3 _ _ l4 t280 t281 _ ?side1 ?side2 ?side3 A6.out).mono ?_); (case side1 => exact hT.below (by repeat (first | (with_reducible first | exact HB.out | apply below_alloc | apply pw_below_drewN | apply below_drew1) | exact HB.out)) hT.size); (case side2 => repeat (first | exact HR4.out | (with_reducible refine Kd.C_alloc ?_ _) | (with_reducible refine Kd.C_drewN ?_ _) | (with_reducible refine Kd.C_drew ?_))); (case side3 => exact HC4.out); rintro e w19 ⟨v282, rfl, ho0, hb⟩; refine ⟨_, rfl, ?_⟩; have n0_ := Aside0.mk (Kd.R_lower ho0 (below_size (by repeat (first | (with_reducible first | exact HB.out | apply below_alloc | apply pw_below_drewN | apply below_drew1) | exact HB.out)))); have n1_ := Aside0.mk (below_step (by repeat (first | (with_reducible first | exact HB.out | apply below_alloc | apply pw_below_drewN | apply below_drew1) | exact HB.out)) hb); clear HB; have HO283 := n0_; have HB := n1_; clear n0_ n1_; (try clear hb); (try clear hb2); (try clear hk); (try clear hi); (try clear ho0)))
    go_ret
    exact ⟨by first | rfl | (simp [errW_none, errW_some] <;> rfl) | (simp [*, errW_none, errW_some] <;> rfl), by repeat (first | (with_reducible first | exact HB.out | apply below_alloc | apply pw_below_drewN | apply below_drew1) | exact HB.out)⟩

/-! ### cartoucheref03_Check: function 29 -/
def cartoucheref03_Check.f (k : Nat) (a0 : ByteArray) (a1 : Int) (a2 : Int) (a3 : ByteArray) (l4 : List ByteArray) : Option (Int) := (cartoucheref03_Climb.f k a1 a2 a3 l4).bind fun bt286 => (if bt286.2 = 0 then (if 0 ≤ (wrap64 ((bt286.1.length : Int) - 1)) then (if (wrap64 ((bt286.1.length : Int) - 1)) < (bt286.1.length : Int) then ((cartoucheref02_Sum.f (rdOf ByteArray.empty bt286.1 (wrap64 ((bt286.1.length : Int) - 1)))).bind fun t291 => (if t291.toList = a0.toList then (some 0) else (some 13))) else (none)) else (none)) else (some bt286.2))
theorem cartoucheref03_Check.mono : ∀ a0 a1 a2 a3 a4 k, LeO (cartoucheref03_Check.f k a0 a1 a2 a3 a4) (cartoucheref03_Check.f (k + 1) a0 a1 a2 a3 a4) := by
  intro a0 a1 a2 a3 a4 k
  unfold cartoucheref03_Check.f
  repeat' first
      | (with_reducible exact cartoucheref03_Climb.mono _ _ _ _ _)
      | (with_reducible exact LeO.refl _)
      | (with_reducible exact LeO.none _)
      | (with_reducible refine LeO.ite ?_ ?_)
      | (with_reducible refine LeO.bind ?_ (fun _ => ?_))
      | exact cartoucheref03_Climb.mono _ _ _ _ _
      | exact LeO.none _
      | refine LeO.ite ?_ ?_
      | refine LeO.bind ?_ (fun _ => ?_)
set_option maxHeartbeats 8000000 in
set_option maxRecDepth 100000 in
theorem cartoucheref03_Check.calls (k : Nat) (a0 : ByteArray) (a1 : Int) (a2 : Int) (a3 : ByteArray) (A4 : Option Addr) (c4 : Nat) (l4 : List ByteArray) (r : Int) (w : World) (hr4 : Kd.C Kd.string w A4 l4.length l4) (hc4 : l4.length ≤ c4) (h : cartoucheref03_Check.f k a0 a1 a2 a3 l4 = some r) :
    Calls Tryd.prog 29 #[.string a0, .int .i64 a1, .int .i64 a2, .string a3, .slice A4 l4.length c4] w fun e w' => e = .returned (.int .i64 r) ∧ Below w.heap.size w w' := by
  have HR4 := Aside0.mk hr4
  have HC4 := Aside0.mk hc4
  clear hr4 hc4
  have HB := Aside0.mk (Below.refl w.heap.size w)
  have H : ((cartoucheref03_Climb.f k a1 a2 a3 l4).bind fun bt286 => (if bt286.2 = 0 then (if 0 ≤ (wrap64 ((bt286.1.length : Int) - 1)) then (if (wrap64 ((bt286.1.length : Int) - 1)) < (bt286.1.length : Int) then ((cartoucheref02_Sum.f (rdOf ByteArray.empty bt286.1 (wrap64 ((bt286.1.length : Int) - 1)))).bind fun t291 => (if t291.toList = a0.toList then (some 0) else (some 13))) else (none)) else (none)) else (some bt286.2))) = some r := h
  clear h
  replace H := Option.bind_eq_some_iff.mp H
  obtain ⟨⟨t286, t287⟩, A60, H⟩ := H
  replace H : (if t287 = 0 then (if 0 ≤ (wrap64 ((t286.length : Int) - 1)) then (if (wrap64 ((t286.length : Int) - 1)) < (t286.length : Int) then ((cartoucheref02_Sum.f (rdOf ByteArray.empty t286 (wrap64 ((t286.length : Int) - 1)))).bind fun t291 => (if t291.toList = a0.toList then (some 0) else (some 13))) else (none)) else (none)) else (some t287)) = some r := H
  have A6 := Aside0.mk A60
  clear A60
  by_cases c7 : t287 = 0
  · rw [if_pos c7] at H
    have c7b0 : (t287 == 0) = true := beq_iff_eq.mpr c7
    have c7b1 : (t287 != 0) = false := bne_eq_false_iff_eq.mpr c7
    clear c7
    obtain ⟨ji8, hji8⟩ : ∃ j_ : Int, (wrap64 ((t286.length : Int) - 1)) = j_ := ⟨_, rfl⟩
    replace H : (if 0 ≤ (ji8) then (if (ji8) < (t286.length : Int) then ((cartoucheref02_Sum.f (rdOf ByteArray.empty t286 (ji8))).bind fun t291 => (if t291.toList = a0.toList then (some 0) else (some 13))) else (none)) else (none)) = some r := by first | (rw [hji8] at H; exact H) | (simp only [hji8] at H ⊢; exact H)
    (try rw [hji8] at A6)
    have hji8w : (IntKind.i64.wrap ((t286.length : Int) - 1)) = ji8 := (i64_w _).trans hji8
    by_cases c9 : 0 ≤ (ji8)
    · rw [if_pos c9] at H
      have c9b0 : decide (0 ≤ (ji8)) = true := decide_eq_true c9
      clear c9
      by_cases c10 : (ji8) < (t286.length : Int)
      · rw [if_pos c10] at H
        have c10b0 : decide ((ji8) < (t286.length : Int)) = true := decide_eq_true c10
        clear c10
        replace H := Option.bind_eq_some_iff.mp H
        obtain ⟨t291, A110, H⟩ := H
        replace H : (if t291.toList = a0.toList then (some 0) else (some 13)) = some r := H
        have A11 := Aside0.mk A110
        clear A110
        by_cases c12 : t291.toList = a0.toList
        · rw [if_pos c12] at H
          have c12b0 : (t291.toList == a0.toList) = true := beq_iff_eq.mpr c12
          have c12b1 : (t291.toList != a0.toList) = false := bne_eq_false_iff_eq.mpr c12
          clear c12
          obtain rfl := Option.some.inj H
          go_enter Tryd.func29, Tryd.ntmps29
          go_wp2_with (first | ((with_reducible refine look_callee (f := 27) rfl ?_); refine goesL_ (some 18) rfl rfl Tryd.func27 (by kernel_rfl) rfl #[.int .i64 a1, .int .i64 a2, .string a3, .slice A4 l4.length c4] rfl (by (try simp only [List.map_toArray, List.map_cons, List.map_nil]); first | done | rfl | (simp only [List.length_drop, List.length_take]; rfl)) ?_; (with_reducible refine (cartoucheref03_Climb.calls k a1 a2 a3 _ _ l4 t286 t287 _ ?side1 ?side2 A6.out).mono ?_); (case side1 => repeat (first | exact HR4.out | (with_reducible refine Kd.C_alloc ?_ _) | (with_reducible refine Kd.C_drewN ?_ _) | (with_reducible refine Kd.C_drew ?_))); (case side2 => exact HC4.out); rintro e w13 ⟨v288, rfl, ho0, hb⟩; refine ⟨_, rfl, ?_⟩; have n0_ := Aside0.mk (Kd.R_lower ho0 (below_size (by repeat (first | (with_reducible first | exact HB.out | apply below_alloc | apply pw_below_drewN | apply below_drew1) | exact HB.out)))); have n1_ := Aside0.mk (below_step (by repeat (first | (with_reducible first | exact HB.out | apply below_alloc | apply pw_below_drewN | apply below_drew1) | exact HB.out)) hb); clear HB; have HO289 := n0_; have HB := n1_; clear n0_ n1_; (try clear hb); (try clear hb2); (try clear hk); (try clear hi); (try clear ho0); obtain ⟨Ao14, co14, eo14⟩ := Kd.R_slice HO289.out; subst eo14; have p290 : 0 ≤ ((ji8) : Int) := of_decide_eq_true (by first | (with_reducible assumption) | assumption); have q290 : (ji8) < (t286.length : Int) := of_decide_eq_true (by first | (with_reducible assumption) | assumption); obtain ⟨ad290, e290, hx290_0⟩ := Kd.at_string (Kd.R_reads' HO289.out).2.2 (ji8) p290 q290; cases e290; replace p290 := eq_true p290; replace q290 := eq_true q290) | ((with_reducible refine look_callee (f := 24) rfl ?_); refine goesL_ (some 30) rfl rfl Tryd.func24 (by kernel_rfl) rfl #[.string (rdOf ByteArray.empty t286 (ji8))] rfl (by (try simp only [List.map_toArray, List.map_cons, List.map_nil]); first | done | (simp only [hji8]; rfl) | rfl | (simp only [List.length_drop, List.length_take]; rfl)) ?_; (with_reducible refine (cartoucheref02_Sum.calls (rdOf ByteArray.empty t286 (ji8)) t291 _ A11.out).mono ?_); rintro e w15 ⟨rfl, hb⟩; refine ⟨_, rfl, ?_⟩; have n0_ := Aside0.mk (Kd.R_below (by (with_reducible repeat (first | apply Kd.R_alloc | apply Kd.R_drewN | apply Kd.R_drew)); exact HO289.out) hb); have n1_ := Aside0.mk (below_step (by repeat (first | (with_reducible first | exact HB.out | apply below_alloc | apply pw_below_drewN | apply below_drew1) | exact HB.out)) hb); clear HO289; clear HB; have HO289 := n0_; have HB := n1_; clear n0_ n1_; (try clear hb); (try clear hb2); (try clear hk); (try clear hi)))
          go_ret
          exact ⟨by first | rfl | (simp [errW_none, errW_some] <;> rfl) | (simp only [← hji8]; first | rfl | (simp [errW_none, errW_some] <;> rfl)) | (simp [*, errW_none, errW_some] <;> rfl), by repeat (first | (with_reducible first | exact HB.out | apply below_alloc | apply pw_below_drewN | apply below_drew1) | exact HB.out)⟩
        · rw [if_neg c12] at H
          have c12b0 : (t291.toList == a0.toList) = false := beq_eq_false_iff_ne.mpr c12
          have c12b1 : (t291.toList != a0.toList) = true := bne_iff_ne.mpr c12
          obtain rfl := Option.some.inj H
          go_enter Tryd.func29, Tryd.ntmps29
          go_wp2_with (first | ((with_reducible refine look_callee (f := 27) rfl ?_); refine goesL_ (some 18) rfl rfl Tryd.func27 (by kernel_rfl) rfl #[.int .i64 a1, .int .i64 a2, .string a3, .slice A4 l4.length c4] rfl (by (try simp only [List.map_toArray, List.map_cons, List.map_nil]); first | done | rfl | (simp only [List.length_drop, List.length_take]; rfl)) ?_; (with_reducible refine (cartoucheref03_Climb.calls k a1 a2 a3 _ _ l4 t286 t287 _ ?side1 ?side2 A6.out).mono ?_); (case side1 => repeat (first | exact HR4.out | (with_reducible refine Kd.C_alloc ?_ _) | (with_reducible refine Kd.C_drewN ?_ _) | (with_reducible refine Kd.C_drew ?_))); (case side2 => exact HC4.out); rintro e w16 ⟨v288, rfl, ho0, hb⟩; refine ⟨_, rfl, ?_⟩; have n0_ := Aside0.mk (Kd.R_lower ho0 (below_size (by repeat (first | (with_reducible first | exact HB.out | apply below_alloc | apply pw_below_drewN | apply below_drew1) | exact HB.out)))); have n1_ := Aside0.mk (below_step (by repeat (first | (with_reducible first | exact HB.out | apply below_alloc | apply pw_below_drewN | apply below_drew1) | exact HB.out)) hb); clear HB; have HO289 := n0_; have HB := n1_; clear n0_ n1_; (try clear hb); (try clear hb2); (try clear hk); (try clear hi); (try clear ho0); obtain ⟨Ao17, co17, eo17⟩ := Kd.R_slice HO289.out; subst eo17; have p290 : 0 ≤ ((ji8) : Int) := of_decide_eq_true (by first | (with_reducible assumption) | assumption); have q290 : (ji8) < (t286.length : Int) := of_decide_eq_true (by first | (with_reducible assumption) | assumption); obtain ⟨ad290, e290, hx290_0⟩ := Kd.at_string (Kd.R_reads' HO289.out).2.2 (ji8) p290 q290; cases e290; replace p290 := eq_true p290; replace q290 := eq_true q290) | ((with_reducible refine look_callee (f := 24) rfl ?_); refine goesL_ (some 30) rfl rfl Tryd.func24 (by kernel_rfl) rfl #[.string (rdOf ByteArray.empty t286 (ji8))] rfl (by (try simp only [List.map_toArray, List.map_cons, List.map_nil]); first | done | (simp only [hji8]; rfl) | rfl | (simp only [List.length_drop, List.length_take]; rfl)) ?_; (with_reducible refine (cartoucheref02_Sum.calls (rdOf ByteArray.empty t286 (ji8)) t291 _ A11.out).mono ?_); rintro e w18 ⟨rfl, hb⟩; refine ⟨_, rfl, ?_⟩; have n0_ := Aside0.mk (Kd.R_below (by (with_reducible repeat (first | apply Kd.R_alloc | apply Kd.R_drewN | apply Kd.R_drew)); exact HO289.out) hb); have n1_ := Aside0.mk (below_step (by repeat (first | (with_reducible first | exact HB.out | apply below_alloc | apply pw_below_drewN | apply below_drew1) | exact HB.out)) hb); clear HO289; clear HB; have HO289 := n0_; have HB := n1_; clear n0_ n1_; (try clear hb); (try clear hb2); (try clear hk); (try clear hi)))
          go_ret
          exact ⟨by first | rfl | (simp [errW_none, errW_some] <;> rfl) | (simp only [← hji8]; first | rfl | (simp [errW_none, errW_some] <;> rfl)) | (simp [*, errW_none, errW_some] <;> rfl), by repeat (first | (with_reducible first | exact HB.out | apply below_alloc | apply pw_below_drewN | apply below_drew1) | exact HB.out)⟩
      · rw [if_neg c10] at H
        exact absurd H (by simp)
    · rw [if_neg c9] at H
      exact absurd H (by simp)
  · rw [if_neg c7] at H
    have c7b0 : (t287 == 0) = false := beq_eq_false_iff_ne.mpr c7
    have c7b1 : (t287 != 0) = true := bne_iff_ne.mpr c7
    obtain rfl := Option.some.inj H
    go_enter Tryd.func29, Tryd.ntmps29
    go_wp2_with (first | ((with_reducible refine look_callee (f := 27) rfl ?_); refine goesL_ (some 18) rfl rfl Tryd.func27 (by kernel_rfl) rfl #[.int .i64 a1, .int .i64 a2, .string a3, .slice A4 l4.length c4] rfl (by (try simp only [List.map_toArray, List.map_cons, List.map_nil]); first | done | rfl | (simp only [List.length_drop, List.length_take]; rfl)) ?_; (with_reducible refine (cartoucheref03_Climb.calls k a1 a2 a3 _ _ l4 t286 t287 _ ?side1 ?side2 A6.out).mono ?_); (case side1 => repeat (first | exact HR4.out | (with_reducible refine Kd.C_alloc ?_ _) | (with_reducible refine Kd.C_drewN ?_ _) | (with_reducible refine Kd.C_drew ?_))); (case side2 => exact HC4.out); rintro e w19 ⟨v288, rfl, ho0, hb⟩; refine ⟨_, rfl, ?_⟩; have n0_ := Aside0.mk (Kd.R_lower ho0 (below_size (by repeat (first | (with_reducible first | exact HB.out | apply below_alloc | apply pw_below_drewN | apply below_drew1) | exact HB.out)))); have n1_ := Aside0.mk (below_step (by repeat (first | (with_reducible first | exact HB.out | apply below_alloc | apply pw_below_drewN | apply below_drew1) | exact HB.out)) hb); clear HB; have HO289 := n0_; have HB := n1_; clear n0_ n1_; (try clear hb); (try clear hb2); (try clear hk); (try clear hi); (try clear ho0)))
    go_ret
    exact ⟨by first | rfl | (simp [errW_none, errW_some] <;> rfl) | (simp [*, errW_none, errW_some] <;> rfl), by repeat (first | (with_reducible first | exact HB.out | apply below_alloc | apply pw_below_drewN | apply below_drew1) | exact HB.out)⟩

/-! ### cartoucheref03_unlike: function 55 -/
def cartoucheref03_unlike.f (a0 : ByteArray) (a1 : ByteArray) : Option (ByteArray × ByteArray × Bool) := if a0.toList = a1.toList then (some ((⟨#[]⟩ : ByteArray), (⟨#[]⟩ : ByteArray), false)) else ((cartoucheref02_Sum.f a0).bind fun t324 => ((cartoucheref02_Sum.f a1).bind fun t325 => (if t324.toList = t325.toList then (some (a0, a1, true)) else (some ((⟨#[]⟩ : ByteArray), (⟨#[]⟩ : ByteArray), false)))))
set_option maxHeartbeats 8000000 in
set_option maxRecDepth 100000 in
theorem cartoucheref03_unlike.calls (a0 : ByteArray) (a1 : ByteArray) (r1 : ByteArray) (r2 : ByteArray) (r3 : Bool) (w : World) (h : cartoucheref03_unlike.f a0 a1 = some (r1, r2, r3)) :
    Calls Tryd.prog 55 #[.string a0, .string a1] w fun e w' => e = .returned (.tuple #[.string r1, .string r2, .bool r3]) ∧ Below w.heap.size w w' := by
  have HB := Aside0.mk (Below.refl w.heap.size w)
  have H : (if a0.toList = a1.toList then (some ((⟨#[]⟩ : ByteArray), (⟨#[]⟩ : ByteArray), false)) else ((cartoucheref02_Sum.f a0).bind fun t324 => ((cartoucheref02_Sum.f a1).bind fun t325 => (if t324.toList = t325.toList then (some (a0, a1, true)) else (some ((⟨#[]⟩ : ByteArray), (⟨#[]⟩ : ByteArray), false)))))) = some (r1, r2, r3) := h
  clear h
  by_cases c3 : a0.toList = a1.toList
  · rw [if_pos c3] at H
    have c3b0 : (a0.toList == a1.toList) = true := beq_iff_eq.mpr c3
    have c3b1 : (a0.toList != a1.toList) = false := bne_eq_false_iff_eq.mpr c3
    clear c3
    simp only [Option.some.injEq, Prod.mk.injEq] at H
    obtain ⟨rfl, rfl, rfl⟩ := H
    go_enter Tryd.func55, Tryd.ntmps55
    go_wp2
    go_ret3
    exact ⟨by first | rfl | (simp [errW_none, errW_some] <;> rfl) | (simp [*, errW_none, errW_some] <;> rfl), by repeat (first | (with_reducible first | exact HB.out | apply below_alloc | apply pw_below_drewN | apply below_drew1) | exact HB.out)⟩
  · rw [if_neg c3] at H
    have c3b0 : (a0.toList == a1.toList) = false := beq_eq_false_iff_ne.mpr c3
    have c3b1 : (a0.toList != a1.toList) = true := bne_iff_ne.mpr c3
    replace H := Option.bind_eq_some_iff.mp H
    obtain ⟨t324, A40, H⟩ := H
    replace H : ((cartoucheref02_Sum.f a1).bind fun t325 => (if t324.toList = t325.toList then (some (a0, a1, true)) else (some ((⟨#[]⟩ : ByteArray), (⟨#[]⟩ : ByteArray), false)))) = some (r1, r2, r3) := H
    have A4 := Aside0.mk A40
    clear A40
    replace H := Option.bind_eq_some_iff.mp H
    obtain ⟨t325, A50, H⟩ := H
    replace H : (if t324.toList = t325.toList then (some (a0, a1, true)) else (some ((⟨#[]⟩ : ByteArray), (⟨#[]⟩ : ByteArray), false))) = some (r1, r2, r3) := H
    have A5 := Aside0.mk A50
    clear A50
    by_cases c6 : t324.toList = t325.toList
    · rw [if_pos c6] at H
      have c6b0 : (t324.toList == t325.toList) = true := beq_iff_eq.mpr c6
      have c6b1 : (t324.toList != t325.toList) = false := bne_eq_false_iff_eq.mpr c6
      clear c6
      simp only [Option.some.injEq, Prod.mk.injEq] at H
      obtain ⟨rfl, rfl, rfl⟩ := H
      go_enter Tryd.func55, Tryd.ntmps55
      go_wp2_with (first | (go_at_call 24; (with_reducible refine (cartoucheref02_Sum.calls a0 t324 _ A4.out).mono ?_); rintro e w7 ⟨rfl, hb⟩; have n0_ := Aside0.mk (below_step (by repeat (first | (with_reducible first | exact HB.out | apply below_alloc | apply pw_below_drewN | apply below_drew1) | exact HB.out)) hb); clear HB; have HB := n0_; clear n0_; (try clear hb); (try clear hb2); (try clear hk); (try clear hi)) | (go_at_call 24; (with_reducible refine (cartoucheref02_Sum.calls a1 t325 _ A5.out).mono ?_); rintro e w8 ⟨rfl, hb⟩; have n0_ := Aside0.mk (below_step (by repeat (first | (with_reducible first | exact HB.out | apply below_alloc | apply pw_below_drewN | apply below_drew1) | exact HB.out)) hb); clear HB; have HB := n0_; clear n0_; (try clear hb); (try clear hb2); (try clear hk); (try clear hi)))
      go_ret3
      exact ⟨by first | rfl | (simp [errW_none, errW_some] <;> rfl) | (simp [*, errW_none, errW_some] <;> rfl), by repeat (first | (with_reducible first | exact HB.out | apply below_alloc | apply pw_below_drewN | apply below_drew1) | exact HB.out)⟩
    · rw [if_neg c6] at H
      have c6b0 : (t324.toList == t325.toList) = false := beq_eq_false_iff_ne.mpr c6
      have c6b1 : (t324.toList != t325.toList) = true := bne_iff_ne.mpr c6
      simp only [Option.some.injEq, Prod.mk.injEq] at H
      obtain ⟨rfl, rfl, rfl⟩ := H
      go_enter Tryd.func55, Tryd.ntmps55
      go_wp2_with (first | (go_at_call 24; (with_reducible refine (cartoucheref02_Sum.calls a0 t324 _ A4.out).mono ?_); rintro e w9 ⟨rfl, hb⟩; have n0_ := Aside0.mk (below_step (by repeat (first | (with_reducible first | exact HB.out | apply below_alloc | apply pw_below_drewN | apply below_drew1) | exact HB.out)) hb); clear HB; have HB := n0_; clear n0_; (try clear hb); (try clear hb2); (try clear hk); (try clear hi)) | (go_at_call 24; (with_reducible refine (cartoucheref02_Sum.calls a1 t325 _ A5.out).mono ?_); rintro e w10 ⟨rfl, hb⟩; have n0_ := Aside0.mk (below_step (by repeat (first | (with_reducible first | exact HB.out | apply below_alloc | apply pw_below_drewN | apply below_drew1) | exact HB.out)) hb); clear HB; have HB := n0_; clear n0_; (try clear hb); (try clear hb2); (try clear hk); (try clear hi)))
      go_ret3
      exact ⟨by first | rfl | (simp [errW_none, errW_some] <;> rfl) | (simp [*, errW_none, errW_some] <;> rfl), by repeat (first | (with_reducible first | exact HB.out | apply below_alloc | apply pw_below_drewN | apply below_drew1) | exact HB.out)⟩

end Go.Proofs.YtlcmpmodfkmfnaaDoor.Q
