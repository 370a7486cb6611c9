-- Written by pp.py and splitq.py, programs of the session, with the kit's print. Not trusted: Lean checks it.
import Derived.Test.YtlcmpmodfkmfnaaDoorQS
namespace Go.Proofs.YtlcmpmodfkmfnaaDoor.Q
open Go.RowKit Go.Proofs.YtlcmpmodfkmfnaaDoorW.PrintWords Go.Proofs.YtlcmpmodfkmfnaaDoorW.PrintLast
set_option linter.unusedVariables false
set_option linter.unusedSimpArgs false

/-! ### cartouchelaw03_TreeProves: function 8 -/
def cartouchelaw03_TreeProves.j0 : Nat → List ByteArray → Int → Bool → ByteArray → Bool → Option (Bool)
  | 0, _, _, _, _, _ => none
  | k + 1, x0, x1, x5, x7, x34 => if x34 = true then (some x5) else ((tree_Path.f x0 x1).bind fun bt309 => (if x5 = true then (if bt309.2 = 0 then (if 0 ≤ x1 then (if x1 < (x0.length : Int) then ((tree_Check.f x7 (x0.length : Int) x1 (rdOf ByteArray.empty x0 x1) bt309.1).bind fun t314 => (some (t314 == 0))) else (none)) else (none)) else (some false)) else (some false)))
def cartouchelaw03_TreeProves.f (k : Nat) (l0 : List ByteArray) (a1 : Int) : Option (Bool) := (cartouchelaw03_shown.f).bind fun t305 => ((cartouchelaw03_few.f k l0).bind fun t306 => ((tree_Root.f l0).bind fun bt307 => (if t306 = true then (if bt307.2 = 0 then (if a1 < 0 then (cartouchelaw03_TreeProves.j0 k l0 a1 t305 bt307.1 true) else (cartouchelaw03_TreeProves.j0 k l0 a1 t305 bt307.1 (decide (a1 ≥ (l0.length : Int))))) else (cartouchelaw03_TreeProves.j0 k l0 a1 t305 bt307.1 true)) else (cartouchelaw03_TreeProves.j0 k l0 a1 t305 bt307.1 true))))
theorem cartouchelaw03_TreeProves.mono_l : ∀ k, (∀ y0 y1 y2 y3 y4, LeO (cartouchelaw03_TreeProves.j0 k y0 y1 y2 y3 y4) (cartouchelaw03_TreeProves.j0 (k + 1) y0 y1 y2 y3 y4))
  | 0 => fun _ _ _ _ _ r h => by simp [cartouchelaw03_TreeProves.j0] at h
  | k + 1 => by
    have ih0 := cartouchelaw03_TreeProves.mono_l k
    · intro y0 y1 y2 y3 y4
      unfold cartouchelaw03_TreeProves.j0
      repeat' first
      | (with_reducible exact ih0 _ _ _ _ _)
      | (with_reducible exact cartouchelaw03_few.mono _ _)
      | (with_reducible exact LeO.refl _)
      | (with_reducible exact LeO.none _)
      | (with_reducible refine LeO.ite ?_ ?_)
      | (with_reducible refine LeO.bind ?_ (fun _ => ?_))
      | exact ih0 _ _ _ _ _
      | exact cartouchelaw03_few.mono _ _
      | exact LeO.none _
      | refine LeO.ite ?_ ?_
      | refine LeO.bind ?_ (fun _ => ?_)
theorem cartouchelaw03_TreeProves.mono : ∀ a0 a1 k, LeO (cartouchelaw03_TreeProves.f k a0 a1) (cartouchelaw03_TreeProves.f (k + 1) a0 a1) := by
  intro a0 a1 k
  have ih0 := cartouchelaw03_TreeProves.mono_l k
  unfold cartouchelaw03_TreeProves.f
  repeat' first
      | (with_reducible exact ih0 _ _ _ _ _)
      | (with_reducible exact cartouchelaw03_few.mono _ _)
      | (with_reducible exact LeO.refl _)
      | (with_reducible exact LeO.none _)
      | (with_reducible refine LeO.ite ?_ ?_)
      | (with_reducible refine LeO.bind ?_ (fun _ => ?_))
      | exact ih0 _ _ _ _ _
      | exact cartouchelaw03_few.mono _ _
      | exact LeO.none _
      | refine LeO.ite ?_ ?_
      | refine LeO.bind ?_ (fun _ => ?_)
set_option maxHeartbeats 8000000 in
set_option maxRecDepth 100000 in
theorem cartouchelaw03_TreeProves.calls (k : Nat) (A0 : Option Addr) (c0 : Nat) (l0 : List ByteArray) (a1 : Int) (r : Bool) (w : World) (hT : Tabs w) (hr0 : Kd.C Kd.string w A0 l0.length l0) (hc0 : l0.length ≤ c0) (h : cartouchelaw03_TreeProves.f k l0 a1 = some r) :
    Calls Tryd.prog 8 #[.slice A0 l0.length c0, .int .i64 a1] w fun e w' => e = .returned (.bool r) ∧ Below w.heap.size w w' := by
  have HR0 := Aside0.mk hr0
  have HC0 := Aside0.mk hc0
  clear hr0 hc0
  have HB := Aside0.mk (Below.refl w.heap.size w)
  have H : ((cartouchelaw03_shown.f).bind fun t305 => ((cartouchelaw03_few.f k l0).bind fun t306 => ((tree_Root.f l0).bind fun bt307 => (if t306 = true then (if bt307.2 = 0 then (if a1 < 0 then (cartouchelaw03_TreeProves.j0 k l0 a1 t305 bt307.1 true) else (cartouchelaw03_TreeProves.j0 k l0 a1 t305 bt307.1 (decide (a1 ≥ (l0.length : Int))))) else (cartouchelaw03_TreeProves.j0 k l0 a1 t305 bt307.1 true)) else (cartouchelaw03_TreeProves.j0 k l0 a1 t305 bt307.1 true))))) = some r := h
  clear h
  replace H := Option.bind_eq_some_iff.mp H
  obtain ⟨t305, A30, H⟩ := H
  replace H : ((cartouchelaw03_few.f k l0).bind fun t306 => ((tree_Root.f l0).bind fun bt307 => (if t306 = true then (if bt307.2 = 0 then (if a1 < 0 then (cartouchelaw03_TreeProves.j0 k l0 a1 t305 bt307.1 true) else (cartouchelaw03_TreeProves.j0 k l0 a1 t305 bt307.1 (decide (a1 ≥ (l0.length : Int))))) else (cartouchelaw03_TreeProves.j0 k l0 a1 t305 bt307.1 true)) else (cartouchelaw03_TreeProves.j0 k l0 a1 t305 bt307.1 true)))) = some r := H
  have A3 := Aside0.mk A30
  clear A30
  replace H := Option.bind_eq_some_iff.mp H
  obtain ⟨t306, A40, H⟩ := H
  replace H : ((tree_Root.f l0).bind fun bt307 => (if t306 = true then (if bt307.2 = 0 then (if a1 < 0 then (cartouchelaw03_TreeProves.j0 k l0 a1 t305 bt307.1 true) else (cartouchelaw03_TreeProves.j0 k l0 a1 t305 bt307.1 (decide (a1 ≥ (l0.length : Int))))) else (cartouchelaw03_TreeProves.j0 k l0 a1 t305 bt307.1 true)) else (cartouchelaw03_TreeProves.j0 k l0 a1 t305 bt307.1 true))) = some r := H
  have A4 := Aside0.mk A40
  clear A40
  replace H := Option.bind_eq_some_iff.mp H
  obtain ⟨⟨t307, t308⟩, A50, H⟩ := H
  replace H : (if t306 = true then (if t308 = 0 then (if a1 < 0 then (cartouchelaw03_TreeProves.j0 k l0 a1 t305 t307 true) else (cartouchelaw03_TreeProves.j0 k l0 a1 t305 t307 (decide (a1 ≥ (l0.length : Int))))) else (cartouchelaw03_TreeProves.j0 k l0 a1 t305 t307 true)) else (cartouchelaw03_TreeProves.j0 k l0 a1 t305 t307 true)) = some r := H
  have A5 := Aside0.mk A50
  clear A50
  have HC6 := Aside0.mk H
  clear H
  go_enter Tryd.func8, Tryd.ntmps8
  go_upto_region 4 with (first | ((with_reducible refine look_callee (f := 12) rfl ?_); refine goesL_ (some 11) rfl rfl Tryd.func12 (by kernel_rfl) rfl #[] rfl (by (try simp only [List.map_toArray, List.map_cons, List.map_nil]); first | done | rfl | (simp only [List.length_drop, List.length_take]; rfl)) ?_; (with_reducible refine (cartouchelaw03_shown.calls  t305 _ ?side1 A3.out).mono ?_); (case side1 => exact hT.below (by repeat (first | (with_reducible first | exact HB.out | apply below_alloc | apply pw_below_drewN | apply below_drew1) | exact HB.out)) hT.size); rintro e w7 ⟨rfl, hb⟩; refine ⟨_, rfl, ?_⟩; have n0_ := Aside0.mk (below_step (by repeat (first | (with_reducible first | exact HB.out | apply below_alloc | apply pw_below_drewN | apply below_drew1) | exact HB.out)) hb); clear HB; have HB := n0_; clear n0_; (try clear hb); (try clear hb2); (try clear hk); (try clear hi)) | ((with_reducible refine look_callee (f := 13) rfl ?_); refine goesL_ (some 13) rfl rfl Tryd.func13 (by kernel_rfl) rfl #[.slice A0 l0.length c0] rfl (by (try simp only [List.map_toArray, List.map_cons, List.map_nil]); first | done | rfl | (simp only [List.length_drop, List.length_take]; rfl)) ?_; (with_reducible refine (cartouchelaw03_few.calls k _ _ l0 t306 _ ?side1 ?side2 A4.out).mono ?_); (case side1 => repeat (first | exact (Kd.C_below HR0.out HB.out) | (with_reducible refine Kd.C_alloc ?_ _) | (with_reducible refine Kd.C_drewN ?_ _) | (with_reducible refine Kd.C_drew ?_))); (case side2 => exact HC0.out); rintro e w' ⟨rfl, ⟨nd, rfl⟩⟩; refine ⟨_, rfl, ?_⟩) | ((with_reducible refine look_callee (f := 15) rfl ?_); refine goesL_ (some 16) rfl rfl Tryd.func15 (by kernel_rfl) rfl #[.slice A0 l0.length c0] rfl (by (try simp only [List.map_toArray, List.map_cons, List.map_nil]); first | done | rfl | (simp only [List.length_drop, List.length_take]; rfl)) ?_; (with_reducible refine (tree_Root.calls _ _ l0 t307 t308 _ ?side1 ?side2 ?side3 A5.out).mono ?_); (case side1 => exact hT.below (by repeat (first | (with_reducible first | exact HB.out | apply below_alloc | apply pw_below_drewN | apply below_drew1) | exact HB.out)) hT.size); (case side2 => repeat (first | exact (Kd.C_below HR0.out (by repeat (first | (with_reducible first | exact HB.out | apply below_alloc | apply pw_below_drewN | apply below_drew1) | exact HB.out))) | (with_reducible refine Kd.C_alloc ?_ _) | (with_reducible refine Kd.C_drewN ?_ _) | (with_reducible refine Kd.C_drew ?_))); (case side3 => exact HC0.out); rintro e w8 ⟨rfl, hb⟩; refine ⟨_, rfl, ?_⟩; have n0_ := Aside0.mk (below_step (by repeat (first | (with_reducible first | exact HB.out | apply below_alloc | apply pw_below_drewN | apply below_drew1) | exact HB.out)) hb); clear HB; have HB := n0_; clear n0_; (try clear hb); (try clear hb2); (try clear hk); (try clear hi)))
  (try simp only [Act.put, List.setIfInBounds_toArray, List.set_cons_zero, List.set_cons_succ])
  go_cut [34] (fun v34 wc => ∃ (kq : Nat) (x34_5 : Bool), v34 = .bool x34_5 ∧ Aside0 (cartouchelaw03_TreeProves.j0 kq l0 a1 t305 t307 x34_5 = some r) ∧ Aside0 (kq ≤ k) ∧ Aside0 (Below w.heap.size w wc))
  case first =>
    have H := HC6.out
    clear HC6
    by_cases c9 : t306 = true
    · subst c9
      have H1 : (if t308 = 0 then (if a1 < 0 then (cartouchelaw03_TreeProves.j0 k l0 a1 t305 t307 true) else (cartouchelaw03_TreeProves.j0 k l0 a1 t305 t307 (decide (a1 ≥ (l0.length : Int))))) else (cartouchelaw03_TreeProves.j0 k l0 a1 t305 t307 true)) = some r := by rw [if_pos rfl] at H; exact H
      clear H
      have H := H1
      clear H1
      by_cases c10 : t308 = 0
      · rw [if_pos c10] at H
        have c10b0 : (t308 == 0) = true := beq_iff_eq.mpr c10
        have c10b1 : (t308 != 0) = false := bne_eq_false_iff_eq.mpr c10
        clear c10
        (first | rw [c10b0] | (simp only [i64_w, i32_w]; rw [c10b0]) | skip)
        by_cases c11 : a1 < 0
        · rw [if_pos c11] at H
          have c11b0 : decide (a1 < 0) = true := decide_eq_true c11
          clear c11
          have H' := Aside0.mk H
          clear H
          go_wp2
          go_meet
          case rel => exact ⟨_, (true), (by first | rfl | (simp; done) | (simp [*]; done)), H', ⟨by first | omega | exact Nat.le_refl _⟩, ⟨by repeat (first | (with_reducible first | exact HB.out | apply below_alloc | apply pw_below_drewN | apply below_drew1) | exact HB.out)⟩⟩
        · rw [if_neg c11] at H
          have c11b0 : decide (a1 < 0) = false := decide_eq_false c11
          clear c11
          have H' := Aside0.mk H
          clear H
          go_wp2
          go_meet
          case rel => exact ⟨_, (decide (a1 ≥ (l0.length : Int))), (by first | rfl | (simp; done) | (simp [*]; done)), H', ⟨by first | omega | exact Nat.le_refl _⟩, ⟨by repeat (first | (with_reducible first | exact HB.out | apply below_alloc | apply pw_below_drewN | apply below_drew1) | exact HB.out)⟩⟩
      · rw [if_neg c10] at H
        have c10b0 : (t308 == 0) = false := beq_eq_false_iff_ne.mpr c10
        have c10b1 : (t308 != 0) = true := bne_iff_ne.mpr c10
        (first | rw [c10b0] | (simp only [i64_w, i32_w]; rw [c10b0]) | skip)
        have H' := Aside0.mk H
        clear H
        go_wp2
        go_meet
        case rel => exact ⟨_, (true), (by first | rfl | (simp; done) | (simp [*]; done)), H', ⟨by first | omega | exact Nat.le_refl _⟩, ⟨by repeat (first | (with_reducible first | exact HB.out | apply below_alloc | apply pw_below_drewN | apply below_drew1) | exact HB.out)⟩⟩
    · replace c9 := Bool.eq_false_iff.mpr c9
      subst c9
      have H1 : (cartouchelaw03_TreeProves.j0 k l0 a1 t305 t307 true) = some r := by rw [if_neg (show ¬ (false = true) by decide)] at H; exact H
      clear H
      have H := H1
      clear H1
      have H' := Aside0.mk H
      clear H
      go_wp2
      go_meet
      case rel => exact ⟨_, (true), (by first | rfl | (simp; done) | (simp [*]; done)), H', ⟨by first | omega | exact Nat.le_refl _⟩, ⟨by repeat (first | (with_reducible first | exact HB.out | apply below_alloc | apply pw_below_drewN | apply below_drew1) | exact HB.out)⟩⟩
  case rest =>
    clear HC6
    try clear c1
    try clear p2
    try clear c8
    try clear c9
    try clear c10
    try clear c10b0
    try clear c10b1
    try clear c11
    try clear c11b0
    obtain ⟨kq, x34_5, rfl, HA, HJ5, HB⟩ := hcut
    cases kq with
    | zero => exact absurd HA.out (by simp [cartouchelaw03_TreeProves.j0])
    | succ kj5 =>
      have H := HA.out
      clear HA
      simp only [cartouchelaw03_TreeProves.j0] at H
      by_cases c12 : x34_5 = true
      · subst c12
        have H1 : (some t305) = some r := by rw [if_pos rfl] at H; exact H
        clear H
        have H := H1
        clear H1
        obtain rfl := Option.some.inj H
        go_wp2
        go_ret
        exact ⟨by first | rfl | (simp [errW_none, errW_some] <;> rfl) | (simp [*, errW_none, errW_some] <;> rfl), by repeat (first | (with_reducible first | exact HB.out | apply below_alloc | apply pw_below_drewN | apply below_drew1) | exact HB.out)⟩
      · replace c12 := Bool.eq_false_iff.mpr c12
        subst c12
        have H1 : ((tree_Path.f l0 a1).bind fun bt309 => (if t305 = true then (if bt309.2 = 0 then (if 0 ≤ a1 then (if a1 < (l0.length : Int) then ((tree_Check.f t307 (l0.length : Int) a1 (rdOf ByteArray.empty l0 a1) bt309.1).bind fun t314 => (some (t314 == 0))) else (none)) else (none)) else (some false)) else (some false))) = some r := by rw [if_neg (show ¬ (false = true) by decide)] at H; exact H
        clear H
        have H := H1
        clear H1
        replace H := Option.bind_eq_some_iff.mp H
        obtain ⟨⟨t309, t310⟩, A130, H⟩ := H
        replace H : (if t305 = true then (if t310 = 0 then (if 0 ≤ a1 then (if a1 < (l0.length : Int) then ((tree_Check.f t307 (l0.length : Int) a1 (rdOf ByteArray.empty l0 a1) t309).bind fun t314 => (some (t314 == 0))) else (none)) else (none)) else (some false)) else (some false)) = some r := H
        have A13 := Aside0.mk A130
        clear A130
        by_cases c14 : t305 = true
        · subst c14
          have H1 : (if t310 = 0 then (if 0 ≤ a1 then (if a1 < (l0.length : Int) then ((tree_Check.f t307 (l0.length : Int) a1 (rdOf ByteArray.empty l0 a1) t309).bind fun t314 => (some (t314 == 0))) else (none)) else (none)) else (some false)) = some r := by rw [if_pos rfl] at H; exact H
          clear H
          have H := H1
          clear H1
          by_cases c15 : t310 = 0
          · rw [if_pos c15] at H
            have c15b0 : (t310 == 0) = true := beq_iff_eq.mpr c15
            have c15b1 : (t310 != 0) = false := bne_eq_false_iff_eq.mpr c15
            clear c15
            by_cases c16 : 0 ≤ a1
            · rw [if_pos c16] at H
              have c16b0 : decide (0 ≤ a1) = true := decide_eq_true c16
              clear c16
              by_cases c17 : a1 < (l0.length : Int)
              · rw [if_pos c17] at H
                have c17b0 : decide (a1 < (l0.length : Int)) = true := decide_eq_true c17
                clear c17
                replace H := Option.bind_eq_some_iff.mp H
                obtain ⟨t314, A180, H⟩ := H
                replace H : (some (t314 == 0)) = some r := H
                have A18 := Aside0.mk A180
                clear A180
                obtain rfl := Option.some.inj H
                go_wp2_with (first | ((with_reducible refine look_callee (f := 14) rfl ?_); refine goesL_ (some 39) rfl rfl Tryd.func14 (by kernel_rfl) rfl #[.slice A0 l0.length c0, .int .i64 a1] rfl (by (try simp only [List.map_toArray, List.map_cons, List.map_nil]); first | done | rfl | (simp only [List.length_drop, List.length_take]; rfl)) ?_; (with_reducible refine (tree_Path.calls _ _ l0 a1 t309 t310 _ ?side1 ?side2 ?side3 A13.out).mono ?_); (case side1 => exact hT.below (by repeat (first | (with_reducible first | exact HB.out | apply below_alloc | apply pw_below_drewN | apply below_drew1) | exact HB.out)) hT.size); (case side2 => repeat (first | exact (Kd.C_below HR0.out HB.out) | (with_reducible refine Kd.C_alloc ?_ _) | (with_reducible refine Kd.C_drewN ?_ _) | (with_reducible refine Kd.C_drew ?_))); (case side3 => exact HC0.out); rintro e w19 ⟨v311, rfl, ho0, hb⟩; refine ⟨_, rfl, ?_⟩; have n0_ := Aside0.mk (Kd.R_lower ho0 (below_size (by repeat (first | (with_reducible first | exact HB.out | apply below_alloc | apply pw_below_drewN | apply below_drew1) | exact HB.out)))); have n1_ := Aside0.mk (below_step (by repeat (first | (with_reducible first | exact HB.out | apply below_alloc | apply pw_below_drewN | apply below_drew1) | exact HB.out)) hb); clear HB; have HO312 := n0_; have HB := n1_; clear n0_ n1_; (try clear hb); (try clear hb2); (try clear hk); (try clear hi); (try clear ho0); have p313 : 0 ≤ (a1 : Int) := of_decide_eq_true (by first | (with_reducible assumption) | assumption); have q313 : a1 < (l0.length : Int) := of_decide_eq_true (by first | (with_reducible assumption) | assumption); obtain ⟨ad313, e313, hx313_0⟩ := Kd.at_string HR0.out a1 p313 q313; cases e313; replace hx313_0 := (HB.out.cell (World.block_lt_of_cell? w _ hx313_0)).trans hx313_0; replace p313 := eq_true p313; replace q313 := eq_true q313; obtain ⟨Ao20, co20, eo20⟩ := Kd.R_slice HO312.out; subst eo20) | (go_at_call 28; (with_reducible refine (tree_Check.calls t307 (l0.length : Int) a1 (rdOf ByteArray.empty l0 a1) _ _ t309 t314 _ ?side1 ?side2 ?side3 A18.out).mono ?_); (case side1 => exact hT.below (by repeat (first | (with_reducible first | exact HB.out | apply below_alloc | apply pw_below_drewN | apply below_drew1) | exact HB.out)) hT.size); (case side2 => repeat (first | exact (Kd.R_reads' HO312.out).2.2 | (with_reducible refine Kd.C_alloc ?_ _) | (with_reducible refine Kd.C_drewN ?_ _) | (with_reducible refine Kd.C_drew ?_))); (case side3 => exact (Kd.R_reads' HO312.out).2.1); rintro e w21 ⟨rfl, hb⟩; have n0_ := Aside0.mk (Kd.R_below (by (with_reducible repeat (first | apply Kd.R_alloc | apply Kd.R_drewN | apply Kd.R_drew)); exact HO312.out) hb); have n1_ := Aside0.mk (below_step (by repeat (first | (with_reducible first | exact HB.out | apply below_alloc | apply pw_below_drewN | apply below_drew1) | exact HB.out)) hb); clear HO312; clear HB; have HO312 := n0_; have HB := n1_; clear n0_ n1_; (try clear hb); (try clear hb2); (try clear hk); (try clear hi)))
                go_ret
                exact ⟨by first | rfl | (simp [errW_none, errW_some] <;> rfl) | (simp [*, errW_none, errW_some] <;> rfl), by repeat (first | (with_reducible first | exact HB.out | apply below_alloc | apply pw_below_drewN | apply below_drew1) | exact HB.out)⟩
              · rw [if_neg c17] at H
                exact absurd H (by simp)
            · rw [if_neg c16] at H
              exact absurd H (by simp)
          · rw [if_neg c15] at H
            have c15b0 : (t310 == 0) = false := beq_eq_false_iff_ne.mpr c15
            have c15b1 : (t310 != 0) = true := bne_iff_ne.mpr c15
            obtain rfl := Option.some.inj H
            go_wp2_with (first | ((with_reducible refine look_callee (f := 14) rfl ?_); refine goesL_ (some 39) rfl rfl Tryd.func14 (by kernel_rfl) rfl #[.slice A0 l0.length c0, .int .i64 a1] rfl (by (try simp only [List.map_toArray, List.map_cons, List.map_nil]); first | done | rfl | (simp only [List.length_drop, List.length_take]; rfl)) ?_; (with_reducible refine (tree_Path.calls _ _ l0 a1 t309 t310 _ ?side1 ?side2 ?side3 A13.out).mono ?_); (case side1 => exact hT.below (by repeat (first | (with_reducible first | exact HB.out | apply below_alloc | apply pw_below_drewN | apply below_drew1) | exact HB.out)) hT.size); (case side2 => repeat (first | exact (Kd.C_below HR0.out HB.out) | (with_reducible refine Kd.C_alloc ?_ _) | (with_reducible refine Kd.C_drewN ?_ _) | (with_reducible refine Kd.C_drew ?_))); (case side3 => exact HC0.out); rintro e w22 ⟨v311, rfl, ho0, hb⟩; refine ⟨_, rfl, ?_⟩; have n0_ := Aside0.mk (Kd.R_lower ho0 (below_size (by repeat (first | (with_reducible first | exact HB.out | apply below_alloc | apply pw_below_drewN | apply below_drew1) | exact HB.out)))); have n1_ := Aside0.mk (below_step (by repeat (first | (with_reducible first | exact HB.out | apply below_alloc | apply pw_below_drewN | apply below_drew1) | exact HB.out)) hb); clear HB; have HO312 := n0_; have HB := n1_; clear n0_ n1_; (try clear hb); (try clear hb2); (try clear hk); (try clear hi); (try clear ho0)))
            go_ret
            exact ⟨by first | rfl | (simp [errW_none, errW_some] <;> rfl) | (simp [*, errW_none, errW_some] <;> rfl), by repeat (first | (with_reducible first | exact HB.out | apply below_alloc | apply pw_below_drewN | apply below_drew1) | exact HB.out)⟩
        · replace c14 := Bool.eq_false_iff.mpr c14
          subst c14
          have H1 : (some false) = some r := by rw [if_neg (show ¬ (false = true) by decide)] at H; exact H
          clear H
          have H := H1
          clear H1
          obtain rfl := Option.some.inj H
          go_wp2_with (first | ((with_reducible refine look_callee (f := 14) rfl ?_); refine goesL_ (some 39) rfl rfl Tryd.func14 (by kernel_rfl) rfl #[.slice A0 l0.length c0, .int .i64 a1] rfl (by (try simp only [List.map_toArray, List.map_cons, List.map_nil]); first | done | rfl | (simp only [List.length_drop, List.length_take]; rfl)) ?_; (with_reducible refine (tree_Path.calls _ _ l0 a1 t309 t310 _ ?side1 ?side2 ?side3 A13.out).mono ?_); (case side1 => exact hT.below (by repeat (first | (with_reducible first | exact HB.out | apply below_alloc | apply pw_below_drewN | apply below_drew1) | exact HB.out)) hT.size); (case side2 => repeat (first | exact (Kd.C_below HR0.out HB.out) | (with_reducible refine Kd.C_alloc ?_ _) | (with_reducible refine Kd.C_drewN ?_ _) | (with_reducible refine Kd.C_drew ?_))); (case side3 => exact HC0.out); rintro e w23 ⟨v311, rfl, ho0, hb⟩; refine ⟨_, rfl, ?_⟩; have n0_ := Aside0.mk (Kd.R_lower ho0 (below_size (by repeat (first | (with_reducible first | exact HB.out | apply below_alloc | apply pw_below_drewN | apply below_drew1) | exact HB.out)))); have n1_ := Aside0.mk (below_step (by repeat (first | (with_reducible first | exact HB.out | apply below_alloc | apply pw_below_drewN | apply below_drew1) | exact HB.out)) hb); clear HB; have HO312 := n0_; have HB := n1_; clear n0_ n1_; (try clear hb); (try clear hb2); (try clear hk); (try clear hi); (try clear ho0)))
          go_ret
          exact ⟨by first | rfl | (simp [errW_none, errW_some] <;> rfl) | (simp [*, errW_none, errW_some] <;> rfl), by repeat (first | (with_reducible first | exact HB.out | apply below_alloc | apply pw_below_drewN | apply below_drew1) | exact HB.out)⟩

end Go.Proofs.YtlcmpmodfkmfnaaDoor.Q
