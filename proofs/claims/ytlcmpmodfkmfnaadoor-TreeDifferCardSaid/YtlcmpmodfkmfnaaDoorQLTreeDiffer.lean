-- Written by pp.py and splitq.py, programs of the session, with the kit's print. Not trusted: Lean checks it.
import Derived.Test.YtlcmpmodfkmfnaaDoorQS
namespace Go.Proofs.YtlcmpmodfkmfnaaDoor.Q
open Go.RowKit Go.Proofs.YtlcmpmodfkmfnaaDoorW.PrintWords Go.Proofs.YtlcmpmodfkmfnaaDoorW.PrintLast
set_option linter.unusedVariables false
set_option linter.unusedSimpArgs false

/-! ### cartouchelaw03_TreeDiffer: function 5 -/
mutual
def cartouchelaw03_TreeDiffer.j0 : Nat → List ByteArray → List ByteArray → Bool → Bool → Option (Bool)
  | 0, _, _, _, _ => none
  | k + 1, x0, x1, x5, x6 => (cartoucheref01_Same.f k x0 x1).bind fun t207 => ((tree_Root.f x0).bind fun bt208 => ((tree_Root.f x1).bind fun bt210 => (if x6 = true then (if t207 = true then (cartouchelaw03_TreeDiffer.j1 k x0 x1 x5 true) else (if bt208.2 = 0 then (if bt210.2 = 0 then (cartouchelaw03_TreeDiffer.j1 k x0 x1 x5 (bt208.1.toList != bt210.1.toList)) else (cartouchelaw03_TreeDiffer.j1 k x0 x1 x5 true)) else (cartouchelaw03_TreeDiffer.j1 k x0 x1 x5 true))) else (cartouchelaw03_TreeDiffer.j1 k x0 x1 x5 true))))
def cartouchelaw03_TreeDiffer.j1 : Nat → List ByteArray → List ByteArray → Bool → Bool → Option (Bool)
  | 0, _, _, _, _ => none
  | k + 1, x0, x1, x5, x52 => if x52 = true then (some x5) else ((tree_Differ.f k x0 x1).bind fun bt212 => (if x5 = true then (if bt212.2.2 = true then (if bt212.1.toList = bt212.2.1.toList then (some false) else ((cartoucheref02_Sum.f bt212.1).bind fun t215 => ((cartoucheref02_Sum.f bt212.2.1).bind fun t216 => (some (t215.toList == t216.toList))))) else (some false)) else (some false)))
end
def cartouchelaw03_TreeDiffer.f (k : Nat) (l0 : List ByteArray) (l1 : List ByteArray) : Option (Bool) := (cartouchelaw03_shown.f).bind fun t204 => ((cartouchelaw03_few.f k l0).bind fun t205 => (if t205 = true then ((cartouchelaw03_few.f k l1).bind fun t206 => (cartouchelaw03_TreeDiffer.j0 k l0 l1 t204 t206)) else (cartouchelaw03_TreeDiffer.j0 k l0 l1 t204 false)))
theorem cartouchelaw03_TreeDiffer.mono_l : ∀ k, (∀ y0 y1 y2 y3, LeO (cartouchelaw03_TreeDiffer.j0 k y0 y1 y2 y3) (cartouchelaw03_TreeDiffer.j0 (k + 1) y0 y1 y2 y3)) ∧ (∀ y0 y1 y2 y3, LeO (cartouchelaw03_TreeDiffer.j1 k y0 y1 y2 y3) (cartouchelaw03_TreeDiffer.j1 (k + 1) y0 y1 y2 y3))
  | 0 => ⟨fun _ _ _ _ r h => by simp [cartouchelaw03_TreeDiffer.j0] at h, fun _ _ _ _ r h => by simp [cartouchelaw03_TreeDiffer.j1] at h⟩
  | k + 1 => by
    obtain ⟨ih0, ih1⟩ := cartouchelaw03_TreeDiffer.mono_l k
    refine ⟨?_, ?_⟩
    · intro y0 y1 y2 y3
      unfold cartouchelaw03_TreeDiffer.j0
      repeat' first
      | (with_reducible exact ih0 _ _ _ _)
      | (with_reducible exact ih1 _ _ _ _)
      | (with_reducible exact cartouchelaw03_few.mono _ _)
      | (with_reducible exact cartoucheref01_Same.mono _ _ _)
      | (with_reducible exact tree_Differ.mono _ _ _)
      | (with_reducible exact LeO.refl _)
      | (with_reducible exact LeO.none _)
      | (with_reducible refine LeO.ite ?_ ?_)
      | (with_reducible refine LeO.bind ?_ (fun _ => ?_))
      | exact ih0 _ _ _ _
      | exact ih1 _ _ _ _
      | exact cartouchelaw03_few.mono _ _
      | exact cartoucheref01_Same.mono _ _ _
      | exact tree_Differ.mono _ _ _
      | exact LeO.none _
      | refine LeO.ite ?_ ?_
      | refine LeO.bind ?_ (fun _ => ?_)
    · intro y0 y1 y2 y3
      unfold cartouchelaw03_TreeDiffer.j1
      repeat' first
      | (with_reducible exact ih0 _ _ _ _)
      | (with_reducible exact ih1 _ _ _ _)
      | (with_reducible exact cartouchelaw03_few.mono _ _)
      | (with_reducible exact cartoucheref01_Same.mono _ _ _)
      | (with_reducible exact tree_Differ.mono _ _ _)
      | (with_reducible exact LeO.refl _)
      | (with_reducible exact LeO.none _)
      | (with_reducible refine LeO.ite ?_ ?_)
      | (with_reducible refine LeO.bind ?_ (fun _ => ?_))
      | exact ih0 _ _ _ _
      | exact ih1 _ _ _ _
      | exact cartouchelaw03_few.mono _ _
      | exact cartoucheref01_Same.mono _ _ _
      | exact tree_Differ.mono _ _ _
      | exact LeO.none _
      | refine LeO.ite ?_ ?_
      | refine LeO.bind ?_ (fun _ => ?_)
theorem cartouchelaw03_TreeDiffer.mono : ∀ a0 a1 k, LeO (cartouchelaw03_TreeDiffer.f k a0 a1) (cartouchelaw03_TreeDiffer.f (k + 1) a0 a1) := by
  intro a0 a1 k
  obtain ⟨ih0, ih1⟩ := cartouchelaw03_TreeDiffer.mono_l k
  unfold cartouchelaw03_TreeDiffer.f
  repeat' first
      | (with_reducible exact ih0 _ _ _ _)
      | (with_reducible exact ih1 _ _ _ _)
      | (with_reducible exact cartouchelaw03_few.mono _ _)
      | (with_reducible exact cartoucheref01_Same.mono _ _ _)
      | (with_reducible exact tree_Differ.mono _ _ _)
      | (with_reducible exact LeO.refl _)
      | (with_reducible exact LeO.none _)
      | (with_reducible refine LeO.ite ?_ ?_)
      | (with_reducible refine LeO.bind ?_ (fun _ => ?_))
      | exact ih0 _ _ _ _
      | exact ih1 _ _ _ _
      | exact cartouchelaw03_few.mono _ _
      | exact cartoucheref01_Same.mono _ _ _
      | exact tree_Differ.mono _ _ _
      | exact LeO.none _
      | refine LeO.ite ?_ ?_
      | refine LeO.bind ?_ (fun _ => ?_)
set_option maxHeartbeats 8000000 in
set_option maxRecDepth 100000 in
theorem cartouchelaw03_TreeDiffer.calls (k : Nat) (A0 : Option Addr) (c0 : Nat) (l0 : List ByteArray) (A1 : Option Addr) (c1 : Nat) (l1 : List ByteArray) (r : Bool) (w : World) (hT : Tabs w) (hr0 : Kd.C Kd.string w A0 l0.length l0) (hc0 : l0.length ≤ c0) (hr1 : Kd.C Kd.string w A1 l1.length l1) (hc1 : l1.length ≤ c1) (h : cartouchelaw03_TreeDiffer.f k l0 l1 = some r) :
    Calls Tryd.prog 5 #[.slice A0 l0.length c0, .slice A1 l1.length c1] w fun e w' => e = .returned (.bool r) ∧ Below w.heap.size w w' := by
  have HR0 := Aside0.mk hr0
  have HC0 := Aside0.mk hc0
  clear hr0 hc0
  have HR1 := Aside0.mk hr1
  have HC1 := Aside0.mk hc1
  clear hr1 hc1
  have HB := Aside0.mk (Below.refl w.heap.size w)
  have H : ((cartouchelaw03_shown.f).bind fun t204 => ((cartouchelaw03_few.f k l0).bind fun t205 => (if t205 = true then ((cartouchelaw03_few.f k l1).bind fun t206 => (cartouchelaw03_TreeDiffer.j0 k l0 l1 t204 t206)) else (cartouchelaw03_TreeDiffer.j0 k l0 l1 t204 false)))) = some r := h
  clear h
  replace H := Option.bind_eq_some_iff.mp H
  obtain ⟨t204, A30, H⟩ := H
  replace H : ((cartouchelaw03_few.f k l0).bind fun t205 => (if t205 = true then ((cartouchelaw03_few.f k l1).bind fun t206 => (cartouchelaw03_TreeDiffer.j0 k l0 l1 t204 t206)) else (cartouchelaw03_TreeDiffer.j0 k l0 l1 t204 false))) = some r := H
  have A3 := Aside0.mk A30
  clear A30
  have HC4 := Aside0.mk H
  clear H
  go_enter Tryd.func5, Tryd.ntmps5
  go_upto_region 2 with (first | ((with_reducible refine look_callee (f := 12) rfl ?_); refine goesL_ (some 15) rfl rfl Tryd.func12 (by kernel_rfl) rfl #[] rfl (by (try simp only [List.map_toArray, List.map_cons, List.map_nil]); first | done | rfl | (simp only [List.length_drop, List.length_take]; rfl)) ?_; (with_reducible refine (cartouchelaw03_shown.calls  t204 _ ?side1 A3.out).mono ?_); (case side1 => exact hT.below (by repeat (first | (with_reducible first | exact HB.out | apply below_alloc | apply pw_below_drewN | apply below_drew1) | exact HB.out)) hT.size); rintro e w5 ⟨rfl, hb⟩; refine ⟨_, rfl, ?_⟩; have n0_ := Aside0.mk (below_step (by repeat (first | (with_reducible first | exact HB.out | apply below_alloc | apply pw_below_drewN | apply below_drew1) | exact HB.out)) hb); clear HB; have HB := n0_; clear n0_; (try clear hb); (try clear hb2); (try clear hk); (try clear hi)))
  (try simp only [Act.put, List.setIfInBounds_toArray, List.set_cons_zero, List.set_cons_succ])
  go_cut [6] (fun v6 wc => ∃ (kq : Nat) (x6_3 : Bool), v6 = .bool x6_3 ∧ Aside0 (cartouchelaw03_TreeDiffer.j0 kq l0 l1 t204 x6_3 = some r) ∧ Aside0 (kq ≤ k) ∧ Aside0 (Below w.heap.size w wc))
  case first =>
    have H := HC4.out
    clear HC4
    replace H := Option.bind_eq_some_iff.mp H
    obtain ⟨t205, A60, H⟩ := H
    replace H : (if t205 = true then ((cartouchelaw03_few.f k l1).bind fun t206 => (cartouchelaw03_TreeDiffer.j0 k l0 l1 t204 t206)) else (cartouchelaw03_TreeDiffer.j0 k l0 l1 t204 false)) = some r := H
    have A6 := Aside0.mk A60
    clear A60
    by_cases c7 : t205 = true
    · subst c7
      have H1 : ((cartouchelaw03_few.f k l1).bind fun t206 => (cartouchelaw03_TreeDiffer.j0 k l0 l1 t204 t206)) = some r := by rw [if_pos rfl] at H; exact H
      clear H
      have H := H1
      clear H1
      replace H := Option.bind_eq_some_iff.mp H
      obtain ⟨t206, A80, H⟩ := H
      replace H : (cartouchelaw03_TreeDiffer.j0 k l0 l1 t204 t206) = some r := H
      have A8 := Aside0.mk A80
      clear A80
      have H' := Aside0.mk H
      clear H
      go_wp2_with (first | ((with_reducible refine look_callee (f := 13) rfl ?_); refine goesL_ (some 17) rfl rfl Tryd.func13 (by kernel_rfl) rfl #[.slice A0 l0.length c0] rfl (by (try simp only [List.map_toArray, List.map_cons, List.map_nil]); first | done | rfl | (simp only [List.length_drop, List.length_take]; rfl)) ?_; (with_reducible refine (cartouchelaw03_few.calls k _ _ l0 true _ ?side1 ?side2 A6.out).mono ?_); (case side1 => repeat (first | exact (Kd.C_below HR0.out HB.out) | (with_reducible refine Kd.C_alloc ?_ _) | (with_reducible refine Kd.C_drewN ?_ _) | (with_reducible refine Kd.C_drew ?_))); (case side2 => exact HC0.out); rintro e w' ⟨rfl, ⟨nd, rfl⟩⟩; refine ⟨_, rfl, ?_⟩) | (go_at_call 13; (with_reducible refine (cartouchelaw03_few.calls k _ _ l1 t206 _ ?side1 ?side2 A8.out).mono ?_); (case side1 => repeat (first | exact (Kd.C_below HR1.out (by repeat (first | (with_reducible first | exact HB.out | apply below_alloc | apply pw_below_drewN | apply below_drew1) | exact HB.out))) | (with_reducible refine Kd.C_alloc ?_ _) | (with_reducible refine Kd.C_drewN ?_ _) | (with_reducible refine Kd.C_drew ?_))); (case side2 => exact HC1.out); rintro e w' ⟨rfl, ⟨nd, rfl⟩⟩))
      go_meet
      case rel => exact ⟨_, (t206), (by first | rfl | (simp; done) | (simp [*]; done)), H', ⟨by first | omega | exact Nat.le_refl _⟩, ⟨by repeat (first | (with_reducible first | exact HB.out | apply below_alloc | apply pw_below_drewN | apply below_drew1) | exact HB.out)⟩⟩
    · replace c7 := Bool.eq_false_iff.mpr c7
      subst c7
      have H1 : (cartouchelaw03_TreeDiffer.j0 k l0 l1 t204 false) = some r := by rw [if_neg (show ¬ (false = true) by decide)] at H; exact H
      clear H
      have H := H1
      clear H1
      have H' := Aside0.mk H
      clear H
      go_wp2_with (first | ((with_reducible refine look_callee (f := 13) rfl ?_); refine goesL_ (some 17) rfl rfl Tryd.func13 (by kernel_rfl) rfl #[.slice A0 l0.length c0] rfl (by (try simp only [List.map_toArray, List.map_cons, List.map_nil]); first | done | rfl | (simp only [List.length_drop, List.length_take]; rfl)) ?_; (with_reducible refine (cartouchelaw03_few.calls k _ _ l0 false _ ?side1 ?side2 A6.out).mono ?_); (case side1 => repeat (first | exact (Kd.C_below HR0.out HB.out) | (with_reducible refine Kd.C_alloc ?_ _) | (with_reducible refine Kd.C_drewN ?_ _) | (with_reducible refine Kd.C_drew ?_))); (case side2 => exact HC0.out); rintro e w' ⟨rfl, ⟨nd, rfl⟩⟩; refine ⟨_, rfl, ?_⟩))
      go_meet
      case rel => exact ⟨_, (false), (by first | rfl | (simp; done) | (simp [*]; done)), H', ⟨by first | omega | exact Nat.le_refl _⟩, ⟨by repeat (first | (with_reducible first | exact HB.out | apply below_alloc | apply pw_below_drewN | apply below_drew1) | exact HB.out)⟩⟩
  case rest =>
    clear HC4
    try clear c1
    try clear p2
    try clear c5
    try clear c7
    obtain ⟨kq, x6_3, rfl, HA, HJ3, HB⟩ := hcut
    cases kq with
    | zero => exact absurd HA.out (by simp [cartouchelaw03_TreeDiffer.j0])
    | succ kj3 =>
      have H := HA.out
      clear HA
      simp only [cartouchelaw03_TreeDiffer.j0] at H
      replace H := Option.bind_eq_some_iff.mp H
      obtain ⟨t207, A90, H⟩ := H
      replace H : ((tree_Root.f l0).bind fun bt208 => ((tree_Root.f l1).bind fun bt210 => (if x6_3 = true then (if t207 = true then (cartouchelaw03_TreeDiffer.j1 kj3 l0 l1 t204 true) else (if bt208.2 = 0 then (if bt210.2 = 0 then (cartouchelaw03_TreeDiffer.j1 kj3 l0 l1 t204 (bt208.1.toList != bt210.1.toList)) else (cartouchelaw03_TreeDiffer.j1 kj3 l0 l1 t204 true)) else (cartouchelaw03_TreeDiffer.j1 kj3 l0 l1 t204 true))) else (cartouchelaw03_TreeDiffer.j1 kj3 l0 l1 t204 true)))) = some r := H
      have A9 := Aside0.mk A90
      clear A90
      replace H := Option.bind_eq_some_iff.mp H
      obtain ⟨⟨t208, t209⟩, A100, H⟩ := H
      replace H : ((tree_Root.f l1).bind fun bt210 => (if x6_3 = true then (if t207 = true then (cartouchelaw03_TreeDiffer.j1 kj3 l0 l1 t204 true) else (if t209 = 0 then (if bt210.2 = 0 then (cartouchelaw03_TreeDiffer.j1 kj3 l0 l1 t204 (t208.toList != bt210.1.toList)) else (cartouchelaw03_TreeDiffer.j1 kj3 l0 l1 t204 true)) else (cartouchelaw03_TreeDiffer.j1 kj3 l0 l1 t204 true))) else (cartouchelaw03_TreeDiffer.j1 kj3 l0 l1 t204 true))) = some r := H
      have A10 := Aside0.mk A100
      clear A100
      replace H := Option.bind_eq_some_iff.mp H
      obtain ⟨⟨t210, t211⟩, A110, H⟩ := H
      replace H : (if x6_3 = true then (if t207 = true then (cartouchelaw03_TreeDiffer.j1 kj3 l0 l1 t204 true) else (if t209 = 0 then (if t211 = 0 then (cartouchelaw03_TreeDiffer.j1 kj3 l0 l1 t204 (t208.toList != t210.toList)) else (cartouchelaw03_TreeDiffer.j1 kj3 l0 l1 t204 true)) else (cartouchelaw03_TreeDiffer.j1 kj3 l0 l1 t204 true))) else (cartouchelaw03_TreeDiffer.j1 kj3 l0 l1 t204 true)) = some r := H
      have A11 := Aside0.mk A110
      clear A110
      have HC12 := Aside0.mk H
      clear H
      go_upto_region 6 with (first | ((with_reducible refine look_callee (f := 18) rfl ?_); refine goesL_ (some 24) rfl rfl Tryd.func18 (by kernel_rfl) rfl #[.slice A0 l0.length c0, .slice A1 l1.length c1] rfl (by (try simp only [List.map_toArray, List.map_cons, List.map_nil]); first | done | rfl | (simp only [List.length_drop, List.length_take]; rfl)) ?_; (with_reducible refine (cartoucheref01_Same.calls kj3 _ _ l0 _ _ l1 t207 _ ?side1 ?side2 ?side3 ?side4 A9.out).mono ?_); (case side1 => repeat (first | exact (Kd.C_below HR0.out HB.out) | (with_reducible refine Kd.C_alloc ?_ _) | (with_reducible refine Kd.C_drewN ?_ _) | (with_reducible refine Kd.C_drew ?_))); (case side2 => exact HC0.out); (case side3 => repeat (first | exact (Kd.C_below HR1.out HB.out) | (with_reducible refine Kd.C_alloc ?_ _) | (with_reducible refine Kd.C_drewN ?_ _) | (with_reducible refine Kd.C_drew ?_))); (case side4 => exact HC1.out); rintro e w' ⟨rfl, ⟨nd, rfl⟩⟩; refine ⟨_, rfl, ?_⟩) | ((with_reducible refine look_callee (f := 15) rfl ?_); refine goesL_ (some 27) rfl rfl Tryd.func15 (by kernel_rfl) rfl #[.slice A0 l0.length c0] rfl (by (try simp only [List.map_toArray, List.map_cons, List.map_nil]); first | done | rfl | (simp only [List.length_drop, List.length_take]; rfl)) ?_; (with_reducible refine (tree_Root.calls _ _ l0 t208 t209 _ ?side1 ?side2 ?side3 A10.out).mono ?_); (case side1 => exact hT.below (by repeat (first | (with_reducible first | exact HB.out | apply below_alloc | apply pw_below_drewN | apply below_drew1) | exact HB.out)) hT.size); (case side2 => repeat (first | exact (Kd.C_below HR0.out (by repeat (first | (with_reducible first | exact HB.out | apply below_alloc | apply pw_below_drewN | apply below_drew1) | exact HB.out))) | (with_reducible refine Kd.C_alloc ?_ _) | (with_reducible refine Kd.C_drewN ?_ _) | (with_reducible refine Kd.C_drew ?_))); (case side3 => exact HC0.out); rintro e w13 ⟨rfl, hb⟩; refine ⟨_, rfl, ?_⟩; have n0_ := Aside0.mk (below_step (by repeat (first | (with_reducible first | exact HB.out | apply below_alloc | apply pw_below_drewN | apply below_drew1) | exact HB.out)) hb); clear HB; have HB := n0_; clear n0_; (try clear hb); (try clear hb2); (try clear hk); (try clear hi)) | ((with_reducible refine look_callee (f := 15) rfl ?_); refine goesL_ (some 32) rfl rfl Tryd.func15 (by kernel_rfl) rfl #[.slice A1 l1.length c1] rfl (by (try simp only [List.map_toArray, List.map_cons, List.map_nil]); first | done | rfl | (simp only [List.length_drop, List.length_take]; rfl)) ?_; (with_reducible refine (tree_Root.calls _ _ l1 t210 t211 _ ?side1 ?side2 ?side3 A11.out).mono ?_); (case side1 => exact hT.below (by repeat (first | (with_reducible first | exact HB.out | apply below_alloc | apply pw_below_drewN | apply below_drew1) | exact HB.out)) hT.size); (case side2 => repeat (first | exact (Kd.C_below HR1.out HB.out) | (with_reducible refine Kd.C_alloc ?_ _) | (with_reducible refine Kd.C_drewN ?_ _) | (with_reducible refine Kd.C_drew ?_))); (case side3 => exact HC1.out); rintro e w14 ⟨rfl, hb⟩; refine ⟨_, rfl, ?_⟩; have n0_ := Aside0.mk (below_step (by repeat (first | (with_reducible first | exact HB.out | apply below_alloc | apply pw_below_drewN | apply below_drew1) | exact HB.out)) hb); clear HB; have HB := n0_; clear n0_; (try clear hb); (try clear hb2); (try clear hk); (try clear hi)))
      (try simp only [Act.put, List.setIfInBounds_toArray, List.set_cons_zero, List.set_cons_succ])
      go_cut [52] (fun v52 wc => ∃ (kq : Nat) (x52_11 : Bool), v52 = .bool x52_11 ∧ Aside0 (cartouchelaw03_TreeDiffer.j1 kq l0 l1 t204 x52_11 = some r) ∧ Aside0 (kq ≤ kj3) ∧ Aside0 (Below w.heap.size w wc))
      case first =>
        have H := HC12.out
        clear HC12
        by_cases c15 : x6_3 = true
        · subst c15
          have H1 : (if t207 = true then (cartouchelaw03_TreeDiffer.j1 kj3 l0 l1 t204 true) else (if t209 = 0 then (if t211 = 0 then (cartouchelaw03_TreeDiffer.j1 kj3 l0 l1 t204 (t208.toList != t210.toList)) else (cartouchelaw03_TreeDiffer.j1 kj3 l0 l1 t204 true)) else (cartouchelaw03_TreeDiffer.j1 kj3 l0 l1 t204 true))) = some r := by rw [if_pos rfl] at H; exact H
          clear H
          have H := H1
          clear H1
          by_cases c16 : t207 = true
          · subst c16
            have H1 : (cartouchelaw03_TreeDiffer.j1 kj3 l0 l1 t204 true) = some r := by rw [if_pos rfl] at H; exact H
            clear H
            have H := H1
            clear H1
            have H' := Aside0.mk H
            clear H
            go_wp2
            go_meet
            case rel => exact ⟨_, (true), (by first | rfl | (simp; done) | (simp [*]; done)), H', ⟨by have := HJ3.out; first | omega | exact Nat.le_refl _⟩, ⟨by repeat (first | (with_reducible first | exact HB.out | apply below_alloc | apply pw_below_drewN | apply below_drew1) | exact HB.out)⟩⟩
          · replace c16 := Bool.eq_false_iff.mpr c16
            subst c16
            have H1 : (if t209 = 0 then (if t211 = 0 then (cartouchelaw03_TreeDiffer.j1 kj3 l0 l1 t204 (t208.toList != t210.toList)) else (cartouchelaw03_TreeDiffer.j1 kj3 l0 l1 t204 true)) else (cartouchelaw03_TreeDiffer.j1 kj3 l0 l1 t204 true)) = some r := by rw [if_neg (show ¬ (false = true) by decide)] at H; exact H
            clear H
            have H := H1
            clear H1
            by_cases c17 : t209 = 0
            · rw [if_pos c17] at H
              have c17b0 : (t209 == 0) = true := beq_iff_eq.mpr c17
              have c17b1 : (t209 != 0) = false := bne_eq_false_iff_eq.mpr c17
              clear c17
              (first | rw [c17b0] | (simp only [i64_w, i32_w]; rw [c17b0]) | skip)
              by_cases c18 : t211 = 0
              · rw [if_pos c18] at H
                have c18b0 : (t211 == 0) = true := beq_iff_eq.mpr c18
                have c18b1 : (t211 != 0) = false := bne_eq_false_iff_eq.mpr c18
                clear c18
                have H' := Aside0.mk H
                clear H
                go_wp2
                go_meet
                case rel => exact ⟨_, ((t208.toList != t210.toList)), (by first | rfl | (simp; done) | (simp [*]; done)), H', ⟨by have := HJ3.out; first | omega | exact Nat.le_refl _⟩, ⟨by repeat (first | (with_reducible first | exact HB.out | apply below_alloc | apply pw_below_drewN | apply below_drew1) | exact HB.out)⟩⟩
              · rw [if_neg c18] at H
                have c18b0 : (t211 == 0) = false := beq_eq_false_iff_ne.mpr c18
                have c18b1 : (t211 != 0) = true := bne_iff_ne.mpr c18
                have H' := Aside0.mk H
                clear H
                go_wp2
                go_meet
                case rel => exact ⟨_, (true), (by first | rfl | (simp; done) | (simp [*]; done)), H', ⟨by have := HJ3.out; first | omega | exact Nat.le_refl _⟩, ⟨by repeat (first | (with_reducible first | exact HB.out | apply below_alloc | apply pw_below_drewN | apply below_drew1) | exact HB.out)⟩⟩
            · rw [if_neg c17] at H
              have c17b0 : (t209 == 0) = false := beq_eq_false_iff_ne.mpr c17
              have c17b1 : (t209 != 0) = true := bne_iff_ne.mpr c17
              (first | rw [c17b0] | (simp only [i64_w, i32_w]; rw [c17b0]) | skip)
              have H' := Aside0.mk H
              clear H
              go_wp2
              go_meet
              case rel => exact ⟨_, (true), (by first | rfl | (simp; done) | (simp [*]; done)), H', ⟨by have := HJ3.out; first | omega | exact Nat.le_refl _⟩, ⟨by repeat (first | (with_reducible first | exact HB.out | apply below_alloc | apply pw_below_drewN | apply below_drew1) | exact HB.out)⟩⟩
        · replace c15 := Bool.eq_false_iff.mpr c15
          subst c15
          have H1 : (cartouchelaw03_TreeDiffer.j1 kj3 l0 l1 t204 true) = some r := by rw [if_neg (show ¬ (false = true) by decide)] at H; exact H
          clear H
          have H := H1
          clear H1
          have H' := Aside0.mk H
          clear H
          go_wp2
          go_meet
          case rel => exact ⟨_, (true), (by first | rfl | (simp; done) | (simp [*]; done)), H', ⟨by have := HJ3.out; first | omega | exact Nat.le_refl _⟩, ⟨by repeat (first | (with_reducible first | exact HB.out | apply below_alloc | apply pw_below_drewN | apply below_drew1) | exact HB.out)⟩⟩
      case rest =>
        clear HC12
        try clear c1
        try clear p2
        try clear c5
        try clear c7
        try clear c12
        try clear c13
        try clear c15
        try clear c16
        try clear c17
        try clear c17b0
        try clear c17b1
        try clear c18
        try clear c18b0
        try clear c18b1
        try clear p2
        obtain ⟨kq, x52_11, rfl, HA, HJ11, HB⟩ := hcut
        cases kq with
        | zero => exact absurd HA.out (by simp [cartouchelaw03_TreeDiffer.j1])
        | succ kj11 =>
          have H := HA.out
          clear HA
          simp only [cartouchelaw03_TreeDiffer.j1] at H
          by_cases c19 : x52_11 = true
          · subst c19
            have H1 : (some t204) = some r := by rw [if_pos rfl] at H; exact H
            clear H
            have H := H1
            clear H1
            obtain rfl := Option.some.inj H
            go_wp2
            go_ret
            exact ⟨by first | rfl | (simp [errW_none, errW_some] <;> rfl) | (simp [*, errW_none, errW_some] <;> rfl), by repeat (first | (with_reducible first | exact HB.out | apply below_alloc | apply pw_below_drewN | apply below_drew1) | exact HB.out)⟩
          · replace c19 := Bool.eq_false_iff.mpr c19
            subst c19
            have H1 : ((tree_Differ.f kj11 l0 l1).bind fun bt212 => (if t204 = true then (if bt212.2.2 = true then (if bt212.1.toList = bt212.2.1.toList then (some false) else ((cartoucheref02_Sum.f bt212.1).bind fun t215 => ((cartoucheref02_Sum.f bt212.2.1).bind fun t216 => (some (t215.toList == t216.toList))))) else (some false)) else (some false))) = some r := by rw [if_neg (show ¬ (false = true) by decide)] at H; exact H
            clear H
            have H := H1
            clear H1
            replace H := Option.bind_eq_some_iff.mp H
            obtain ⟨⟨t212, t213, t214⟩, A200, H⟩ := H
            replace H : (if t204 = true then (if t214 = true then (if t212.toList = t213.toList then (some false) else ((cartoucheref02_Sum.f t212).bind fun t215 => ((cartoucheref02_Sum.f t213).bind fun t216 => (some (t215.toList == t216.toList))))) else (some false)) else (some false)) = some r := H
            have A20 := Aside0.mk A200
            clear A200
            by_cases c21 : t204 = true
            · subst c21
              have H1 : (if t214 = true then (if t212.toList = t213.toList then (some false) else ((cartoucheref02_Sum.f t212).bind fun t215 => ((cartoucheref02_Sum.f t213).bind fun t216 => (some (t215.toList == t216.toList))))) else (some false)) = some r := by rw [if_pos rfl] at H; exact H
              clear H
              have H := H1
              clear H1
              by_cases c22 : t214 = true
              · subst c22
                have H1 : (if t212.toList = t213.toList then (some false) else ((cartoucheref02_Sum.f t212).bind fun t215 => ((cartoucheref02_Sum.f t213).bind fun t216 => (some (t215.toList == t216.toList))))) = some r := by rw [if_pos rfl] at H; exact H
                clear H
                have H := H1
                clear H1
                by_cases c23 : t212.toList = t213.toList
                · rw [if_pos c23] at H
                  have c23b0 : (t212.toList == t213.toList) = true := beq_iff_eq.mpr c23
                  have c23b1 : (t212.toList != t213.toList) = false := bne_eq_false_iff_eq.mpr c23
                  clear c23
                  obtain rfl := Option.some.inj H
                  go_wp2_with (first | ((with_reducible refine look_callee (f := 23) rfl ?_); refine goesL_ (some 57) rfl rfl Tryd.func23 (by kernel_rfl) rfl #[.slice A0 l0.length c0, .slice A1 l1.length c1] rfl (by (try simp only [List.map_toArray, List.map_cons, List.map_nil]); first | done | rfl | (simp only [List.length_drop, List.length_take]; rfl)) ?_; (with_reducible refine (tree_Differ.calls kj11 _ _ l0 _ _ l1 t212 t213 true _ ?side1 ?side2 ?side3 ?side4 ?side5 A20.out).mono ?_); (case side1 => exact hT.below (by repeat (first | (with_reducible first | exact HB.out | apply below_alloc | apply pw_below_drewN | apply below_drew1) | exact HB.out)) hT.size); (case side2 => repeat (first | exact (Kd.C_below HR0.out HB.out) | (with_reducible refine Kd.C_alloc ?_ _) | (with_reducible refine Kd.C_drewN ?_ _) | (with_reducible refine Kd.C_drew ?_))); (case side3 => exact HC0.out); (case side4 => repeat (first | exact (Kd.C_below HR1.out HB.out) | (with_reducible refine Kd.C_alloc ?_ _) | (with_reducible refine Kd.C_drewN ?_ _) | (with_reducible refine Kd.C_drew ?_))); (case side5 => exact HC1.out); rintro e w24 ⟨rfl, hb⟩; refine ⟨_, rfl, ?_⟩; have n0_ := Aside0.mk (below_step (by repeat (first | (with_reducible first | exact HB.out | apply below_alloc | apply pw_below_drewN | apply below_drew1) | exact HB.out)) hb); clear HB; have HB := n0_; clear n0_; (try clear hb); (try clear hb2); (try clear hk); (try clear hi)))
                  go_ret
                  exact ⟨by first | rfl | (simp [errW_none, errW_some] <;> rfl) | (simp [*, errW_none, errW_some] <;> rfl), by repeat (first | (with_reducible first | exact HB.out | apply below_alloc | apply pw_below_drewN | apply below_drew1) | exact HB.out)⟩
                · rw [if_neg c23] at H
                  have c23b0 : (t212.toList == t213.toList) = false := beq_eq_false_iff_ne.mpr c23
                  have c23b1 : (t212.toList != t213.toList) = true := bne_iff_ne.mpr c23
                  replace H := Option.bind_eq_some_iff.mp H
                  obtain ⟨t215, A250, H⟩ := H
                  replace H : ((cartoucheref02_Sum.f t213).bind fun t216 => (some (t215.toList == t216.toList))) = some r := H
                  have A25 := Aside0.mk A250
                  clear A250
                  replace H := Option.bind_eq_some_iff.mp H
                  obtain ⟨t216, A260, H⟩ := H
                  replace H : (some (t215.toList == t216.toList)) = some r := H
                  have A26 := Aside0.mk A260
                  clear A260
                  obtain rfl := Option.some.inj H
                  go_wp2_with (first | ((with_reducible refine look_callee (f := 23) rfl ?_); refine goesL_ (some 57) rfl rfl Tryd.func23 (by kernel_rfl) rfl #[.slice A0 l0.length c0, .slice A1 l1.length c1] rfl (by (try simp only [List.map_toArray, List.map_cons, List.map_nil]); first | done | rfl | (simp only [List.length_drop, List.length_take]; rfl)) ?_; (with_reducible refine (tree_Differ.calls kj11 _ _ l0 _ _ l1 t212 t213 true _ ?side1 ?side2 ?side3 ?side4 ?side5 A20.out).mono ?_); (case side1 => exact hT.below (by repeat (first | (with_reducible first | exact HB.out | apply below_alloc | apply pw_below_drewN | apply below_drew1) | exact HB.out)) hT.size); (case side2 => repeat (first | exact (Kd.C_below HR0.out HB.out) | (with_reducible refine Kd.C_alloc ?_ _) | (with_reducible refine Kd.C_drewN ?_ _) | (with_reducible refine Kd.C_drew ?_))); (case side3 => exact HC0.out); (case side4 => repeat (first | exact (Kd.C_below HR1.out HB.out) | (with_reducible refine Kd.C_alloc ?_ _) | (with_reducible refine Kd.C_drewN ?_ _) | (with_reducible refine Kd.C_drew ?_))); (case side5 => exact HC1.out); rintro e w27 ⟨rfl, hb⟩; refine ⟨_, rfl, ?_⟩; have n0_ := Aside0.mk (below_step (by repeat (first | (with_reducible first | exact HB.out | apply below_alloc | apply pw_below_drewN | apply below_drew1) | exact HB.out)) hb); clear HB; have HB := n0_; clear n0_; (try clear hb); (try clear hb2); (try clear hk); (try clear hi)) | (go_at_call 24; (with_reducible refine (cartoucheref02_Sum.calls t212 t215 _ A25.out).mono ?_); rintro e w28 ⟨rfl, hb⟩; have n0_ := Aside0.mk (below_step (by repeat (first | (with_reducible first | exact HB.out | apply below_alloc | apply pw_below_drewN | apply below_drew1) | exact HB.out)) hb); clear HB; have HB := n0_; clear n0_; (try clear hb); (try clear hb2); (try clear hk); (try clear hi)) | (go_at_call 24; (with_reducible refine (cartoucheref02_Sum.calls t213 t216 _ A26.out).mono ?_); rintro e w29 ⟨rfl, hb⟩; have n0_ := Aside0.mk (below_step (by repeat (first | (with_reducible first | exact HB.out | apply below_alloc | apply pw_below_drewN | apply below_drew1) | exact HB.out)) hb); clear HB; have HB := n0_; clear n0_; (try clear hb); (try clear hb2); (try clear hk); (try clear hi)))
                  go_ret
                  exact ⟨by first | rfl | (simp [errW_none, errW_some] <;> rfl) | (simp [*, errW_none, errW_some] <;> rfl), by repeat (first | (with_reducible first | exact HB.out | apply below_alloc | apply pw_below_drewN | apply below_drew1) | exact HB.out)⟩
              · replace c22 := Bool.eq_false_iff.mpr c22
                subst c22
                have H1 : (some false) = some r := by rw [if_neg (show ¬ (false = true) by decide)] at H; exact H
                clear H
                have H := H1
                clear H1
                obtain rfl := Option.some.inj H
                go_wp2_with (first | ((with_reducible refine look_callee (f := 23) rfl ?_); refine goesL_ (some 57) rfl rfl Tryd.func23 (by kernel_rfl) rfl #[.slice A0 l0.length c0, .slice A1 l1.length c1] rfl (by (try simp only [List.map_toArray, List.map_cons, List.map_nil]); first | done | rfl | (simp only [List.length_drop, List.length_take]; rfl)) ?_; (with_reducible refine (tree_Differ.calls kj11 _ _ l0 _ _ l1 t212 t213 false _ ?side1 ?side2 ?side3 ?side4 ?side5 A20.out).mono ?_); (case side1 => exact hT.below (by repeat (first | (with_reducible first | exact HB.out | apply below_alloc | apply pw_below_drewN | apply below_drew1) | exact HB.out)) hT.size); (case side2 => repeat (first | exact (Kd.C_below HR0.out HB.out) | (with_reducible refine Kd.C_alloc ?_ _) | (with_reducible refine Kd.C_drewN ?_ _) | (with_reducible refine Kd.C_drew ?_))); (case side3 => exact HC0.out); (case side4 => repeat (first | exact (Kd.C_below HR1.out HB.out) | (with_reducible refine Kd.C_alloc ?_ _) | (with_reducible refine Kd.C_drewN ?_ _) | (with_reducible refine Kd.C_drew ?_))); (case side5 => exact HC1.out); rintro e w30 ⟨rfl, hb⟩; refine ⟨_, rfl, ?_⟩; have n0_ := Aside0.mk (below_step (by repeat (first | (with_reducible first | exact HB.out | apply below_alloc | apply pw_below_drewN | apply below_drew1) | exact HB.out)) hb); clear HB; have HB := n0_; clear n0_; (try clear hb); (try clear hb2); (try clear hk); (try clear hi)))
                go_ret
                exact ⟨by first | rfl | (simp [errW_none, errW_some] <;> rfl) | (simp [*, errW_none, errW_some] <;> rfl), by repeat (first | (with_reducible first | exact HB.out | apply below_alloc | apply pw_below_drewN | apply below_drew1) | exact HB.out)⟩
            · replace c21 := Bool.eq_false_iff.mpr c21
              subst c21
              have H1 : (some false) = some r := by rw [if_neg (show ¬ (false = true) by decide)] at H; exact H
              clear H
              have H := H1
              clear H1
              obtain rfl := Option.some.inj H
              go_wp2_with (first | ((with_reducible refine look_callee (f := 23) rfl ?_); refine goesL_ (some 57) rfl rfl Tryd.func23 (by kernel_rfl) rfl #[.slice A0 l0.length c0, .slice A1 l1.length c1] rfl (by (try simp only [List.map_toArray, List.map_cons, List.map_nil]); first | done | rfl | (simp only [List.length_drop, List.length_take]; rfl)) ?_; (with_reducible refine (tree_Differ.calls kj11 _ _ l0 _ _ l1 t212 t213 t214 _ ?side1 ?side2 ?side3 ?side4 ?side5 A20.out).mono ?_); (case side1 => exact hT.below (by repeat (first | (with_reducible first | exact HB.out | apply below_alloc | apply pw_below_drewN | apply below_drew1) | exact HB.out)) hT.size); (case side2 => repeat (first | exact (Kd.C_below HR0.out HB.out) | (with_reducible refine Kd.C_alloc ?_ _) | (with_reducible refine Kd.C_drewN ?_ _) | (with_reducible refine Kd.C_drew ?_))); (case side3 => exact HC0.out); (case side4 => repeat (first | exact (Kd.C_below HR1.out HB.out) | (with_reducible refine Kd.C_alloc ?_ _) | (with_reducible refine Kd.C_drewN ?_ _) | (with_reducible refine Kd.C_drew ?_))); (case side5 => exact HC1.out); rintro e w31 ⟨rfl, hb⟩; refine ⟨_, rfl, ?_⟩; have n0_ := Aside0.mk (below_step (by repeat (first | (with_reducible first | exact HB.out | apply below_alloc | apply pw_below_drewN | apply below_drew1) | exact HB.out)) hb); clear HB; have HB := n0_; clear n0_; (try clear hb); (try clear hb2); (try clear hk); (try clear hi)))
              go_ret
              exact ⟨by first | rfl | (simp [errW_none, errW_some] <;> rfl) | (simp [*, errW_none, errW_some] <;> rfl), by repeat (first | (with_reducible first | exact HB.out | apply below_alloc | apply pw_below_drewN | apply below_drew1) | exact HB.out)⟩

end Go.Proofs.YtlcmpmodfkmfnaaDoor.Q
