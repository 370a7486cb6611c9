-- Written by pp.py and splitq.py, programs of the session, with the kit's print. Not trusted: Lean checks it.
import Derived.Test.YtlcmpmodfkmfnaaDoorQS
namespace Go.Proofs.YtlcmpmodfkmfnaaDoor.Q
open Go.RowKit Go.Proofs.YtlcmpmodfkmfnaaDoorW.PrintWords Go.Proofs.YtlcmpmodfkmfnaaDoorW.PrintLast
set_option linter.unusedVariables false
set_option linter.unusedSimpArgs false

/-! ### cartouchelaw03_TreeHalves: function 6 -/
def cartouchelaw03_TreeHalves.j0 : Nat → ByteArray → ByteArray → Bool → ByteArray → List ByteArray → Bool → Option (Bool)
  | 0, _, _, _, _, _, _ => none
  | k + 1, x0, x1, x5, x6, x8, x36 => if x36 = true then (some false) else (if x5 = true then (if 2 < (x8.length : Int) then ((blake_Sum.f (rdOf ByteArray.empty x8 2)).bind fun t232 => (if t232.toList = x6.toList then (if 1 < (x8.length : Int) then ((blake_Sum.f (rdOf ByteArray.empty x8 1)).bind fun t234 => ((tree_Leaf.f x0).bind fun t235 => ((tree_Leaf.f x1).bind fun t236 => ((tree_Node.f t235 t236).bind fun t237 => (if t234.toList = t237.toList then (if 0 < (x8.length : Int) then ((blake_Sum.f (rdOf ByteArray.empty x8 0)).bind fun t239 => ((tree_Leaf.f x0).bind fun t240 => (some (t239.toList == t240.toList)))) else (none)) else (some false)))))) else (none)) else (some false))) else (none)) else (some false))
def cartouchelaw03_TreeHalves.f (k : Nat) (a0 : ByteArray) (a1 : ByteArray) : Option (Bool) := (cartouchelaw03_shown.f).bind fun t217 => ((tree_Root.f (([a0, a1] : List ByteArray))).bind fun bt221 => ((tree_Leaf.f a1).bind fun t223 => ((tree_Climb.f 2 0 a0 (([t223] : List ByteArray))).bind fun bt227 => (if bt221.2 = 0 then (if bt227.2 = 0 then (cartouchelaw03_TreeHalves.j0 k a0 a1 t217 bt221.1 bt227.1 ((bt227.1.length : Int) != 3)) else (cartouchelaw03_TreeHalves.j0 k a0 a1 t217 bt221.1 bt227.1 true)) else (cartouchelaw03_TreeHalves.j0 k a0 a1 t217 bt221.1 bt227.1 true)))))
theorem cartouchelaw03_TreeHalves.mono_l : ∀ k, (∀ y0 y1 y2 y3 y4 y5, LeO (cartouchelaw03_TreeHalves.j0 k y0 y1 y2 y3 y4 y5) (cartouchelaw03_TreeHalves.j0 (k + 1) y0 y1 y2 y3 y4 y5))
  | 0 => fun _ _ _ _ _ _ r h => by simp [cartouchelaw03_TreeHalves.j0] at h
  | k + 1 => by
    have ih0 := cartouchelaw03_TreeHalves.mono_l k
    · intro y0 y1 y2 y3 y4 y5
      unfold cartouchelaw03_TreeHalves.j0
      repeat' first
      | (with_reducible exact ih0 _ _ _ _ _ _)
      | (with_reducible exact LeO.refl _)
      | (with_reducible exact LeO.none _)
      | (with_reducible refine LeO.ite ?_ ?_)
      | (with_reducible refine LeO.bind ?_ (fun _ => ?_))
      | exact ih0 _ _ _ _ _ _
      | exact LeO.none _
      | refine LeO.ite ?_ ?_
      | refine LeO.bind ?_ (fun _ => ?_)
theorem cartouchelaw03_TreeHalves.mono : ∀ a0 a1 k, LeO (cartouchelaw03_TreeHalves.f k a0 a1) (cartouchelaw03_TreeHalves.f (k + 1) a0 a1) := by
  intro a0 a1 k
  have ih0 := cartouchelaw03_TreeHalves.mono_l k
  unfold cartouchelaw03_TreeHalves.f
  repeat' first
      | (with_reducible exact ih0 _ _ _ _ _ _)
      | (with_reducible exact LeO.refl _)
      | (with_reducible exact LeO.none _)
      | (with_reducible refine LeO.ite ?_ ?_)
      | (with_reducible refine LeO.bind ?_ (fun _ => ?_))
      | exact ih0 _ _ _ _ _ _
      | exact LeO.none _
      | refine LeO.ite ?_ ?_
      | refine LeO.bind ?_ (fun _ => ?_)
set_option maxHeartbeats 8000000 in
set_option maxRecDepth 100000 in
theorem cartouchelaw03_TreeHalves.calls (k : Nat) (a0 : ByteArray) (a1 : ByteArray) (r : Bool) (w : World) (hT : Tabs w) (h : cartouchelaw03_TreeHalves.f k a0 a1 = some r) :
    Calls Tryd.prog 6 #[.string a0, .string a1] w fun e w' => e = .returned (.bool r) ∧ Below w.heap.size w w' := by
  have HB := Aside0.mk (Below.refl w.heap.size w)
  have H : ((cartouchelaw03_shown.f).bind fun t217 => ((tree_Root.f (([a0, a1] : List ByteArray))).bind fun bt221 => ((tree_Leaf.f a1).bind fun t223 => ((tree_Climb.f 2 0 a0 (([t223] : List ByteArray))).bind fun bt227 => (if bt221.2 = 0 then (if bt227.2 = 0 then (cartouchelaw03_TreeHalves.j0 k a0 a1 t217 bt221.1 bt227.1 ((bt227.1.length : Int) != 3)) else (cartouchelaw03_TreeHalves.j0 k a0 a1 t217 bt221.1 bt227.1 true)) else (cartouchelaw03_TreeHalves.j0 k a0 a1 t217 bt221.1 bt227.1 true)))))) = some r := h
  clear h
  replace H := Option.bind_eq_some_iff.mp H
  obtain ⟨t217, A30, H⟩ := H
  replace H : ((tree_Root.f (([a0, a1] : List ByteArray))).bind fun bt221 => ((tree_Leaf.f a1).bind fun t223 => ((tree_Climb.f 2 0 a0 (([t223] : List ByteArray))).bind fun bt227 => (if bt221.2 = 0 then (if bt227.2 = 0 then (cartouchelaw03_TreeHalves.j0 k a0 a1 t217 bt221.1 bt227.1 ((bt227.1.length : Int) != 3)) else (cartouchelaw03_TreeHalves.j0 k a0 a1 t217 bt221.1 bt227.1 true)) else (cartouchelaw03_TreeHalves.j0 k a0 a1 t217 bt221.1 bt227.1 true))))) = some r := H
  have A3 := Aside0.mk A30
  clear A30
  obtain ⟨y218, hy218⟩ : ∃ y_ : List ByteArray, y_ = (([a0, a1] : List ByteArray)) := ⟨_, rfl⟩
  replace H : ((tree_Root.f y218).bind fun bt221 => ((tree_Leaf.f a1).bind fun t223 => ((tree_Climb.f 2 0 a0 (([t223] : List ByteArray))).bind fun bt227 => (if bt221.2 = 0 then (if bt227.2 = 0 then (cartouchelaw03_TreeHalves.j0 k a0 a1 t217 bt221.1 bt227.1 ((bt227.1.length : Int) != 3)) else (cartouchelaw03_TreeHalves.j0 k a0 a1 t217 bt221.1 bt227.1 true)) else (cartouchelaw03_TreeHalves.j0 k a0 a1 t217 bt221.1 bt227.1 true))))) = some r := by first | (rw [hy218]; with_reducible exact H) | (have H2_ := (Option.bind_some _ _).symm.trans H; rw [hy218]; with_reducible exact H2_) | (have H2_ := (Option.bind_some _ _).symm.trans H; with_reducible exact H2_) | with_reducible exact H | (rw [hy218]; exact H) | exact H
  have Ny218 := Aside0.mk hy218
  clear hy218
  replace H := Option.bind_eq_some_iff.mp H
  obtain ⟨⟨t221, t222⟩, A40, H⟩ := H
  replace H : ((tree_Leaf.f a1).bind fun t223 => ((tree_Climb.f 2 0 a0 (([t223] : List ByteArray))).bind fun bt227 => (if t222 = 0 then (if bt227.2 = 0 then (cartouchelaw03_TreeHalves.j0 k a0 a1 t217 t221 bt227.1 ((bt227.1.length : Int) != 3)) else (cartouchelaw03_TreeHalves.j0 k a0 a1 t217 t221 bt227.1 true)) else (cartouchelaw03_TreeHalves.j0 k a0 a1 t217 t221 bt227.1 true)))) = some r := H
  have A4 := Aside0.mk A40
  clear A40
  replace H := Option.bind_eq_some_iff.mp H
  obtain ⟨t223, A50, H⟩ := H
  replace H : ((tree_Climb.f 2 0 a0 (([t223] : List ByteArray))).bind fun bt227 => (if t222 = 0 then (if bt227.2 = 0 then (cartouchelaw03_TreeHalves.j0 k a0 a1 t217 t221 bt227.1 ((bt227.1.length : Int) != 3)) else (cartouchelaw03_TreeHalves.j0 k a0 a1 t217 t221 bt227.1 true)) else (cartouchelaw03_TreeHalves.j0 k a0 a1 t217 t221 bt227.1 true))) = some r := H
  have A5 := Aside0.mk A50
  clear A50
  obtain ⟨y224, hy224⟩ : ∃ y_ : List ByteArray, y_ = (([t223] : List ByteArray)) := ⟨_, rfl⟩
  replace H : ((tree_Climb.f 2 0 a0 y224).bind fun bt227 => (if t222 = 0 then (if bt227.2 = 0 then (cartouchelaw03_TreeHalves.j0 k a0 a1 t217 t221 bt227.1 ((bt227.1.length : Int) != 3)) else (cartouchelaw03_TreeHalves.j0 k a0 a1 t217 t221 bt227.1 true)) else (cartouchelaw03_TreeHalves.j0 k a0 a1 t217 t221 bt227.1 true))) = some r := by first | (rw [hy224]; with_reducible exact H) | (have H2_ := (Option.bind_some _ _).symm.trans H; rw [hy224]; with_reducible exact H2_) | (have H2_ := (Option.bind_some _ _).symm.trans H; with_reducible exact H2_) | with_reducible exact H | (rw [hy224]; exact H) | exact H
  have Ny224 := Aside0.mk hy224
  clear hy224
  replace H := Option.bind_eq_some_iff.mp H
  obtain ⟨⟨t227, t228⟩, A60, H⟩ := H
  replace H : (if t222 = 0 then (if t228 = 0 then (cartouchelaw03_TreeHalves.j0 k a0 a1 t217 t221 t227 ((t227.length : Int) != 3)) else (cartouchelaw03_TreeHalves.j0 k a0 a1 t217 t221 t227 true)) else (cartouchelaw03_TreeHalves.j0 k a0 a1 t217 t221 t227 true)) = some r := H
  have A6 := Aside0.mk A60
  clear A60
  have HC7 := Aside0.mk H
  clear H
  go_enter Tryd.func6, Tryd.ntmps6
  go_upto_region 4 with (first | ((with_reducible refine look_callee (f := 12) rfl ?_); refine goesL_ (some 10) rfl rfl Tryd.func12 (by kernel_rfl) rfl #[] rfl (by (try simp only [List.map_toArray, List.map_cons, List.map_nil]); first | done | rfl | (simp only [List.length_drop, List.length_take]; rfl)) ?_; (with_reducible refine (cartouchelaw03_shown.calls  t217 _ ?side1 A3.out).mono ?_); (case side1 => exact hT.below (by repeat (first | (with_reducible first | exact HB.out | apply below_alloc | apply pw_below_drewN | apply below_drew1) | exact HB.out)) hT.size); rintro e w8 ⟨rfl, hb⟩; refine ⟨_, rfl, ?_⟩; have n0_ := Aside0.mk (below_step (by repeat (first | (with_reducible first | exact HB.out | apply below_alloc | apply pw_below_drewN | apply below_drew1) | exact HB.out)) hb); clear HB; have HB := n0_; clear n0_; (try clear hb); (try clear hb2); (try clear hk); (try clear hi)) | ((with_reducible refine gate_dst (N := 14) rfl ?_); (try (refine gate_guard (by rfl) ?_; dsimp only)); refine Kd.R_lit Kd.string _ 9 ?hg (N := 14) ?hd (xs := ([a0, a1] : List ByteArray)) (inner := [.string a0, .string a1]) (ok := fun _ => True) (okp := fun _ => True) ?hr ?hp (fun _ hk => hk) trivial (Below.refl _ _) (Nat.le_refl _) (by simp) ?_; (case hd => rfl); (case hg => rfl); (case hr => first | (go_simp; done) | (go_simp; rfl)); (case hp => exact (Reps.one (show Kd.M Kd.string _ _ _ a0 [.string a0] from rfl) (Reps.one (show Kd.M Kd.string _ _ _ a1 [.string a1] from rfl) (Reps.none _ _)))); intro v219 w9 ho10 hb hg_ hnew_; clear hg_ hnew_; (first | rw [← Ny218.out] at ho10 | (simp only [Int.reduceToNat] at ho10; rw [← Ny218.out] at ho10)); have n0_ := Aside0.mk (Kd.R_lower ho10 (below_size (by repeat (first | (with_reducible first | exact HB.out | apply below_alloc | apply pw_below_drewN | apply below_drew1) | exact HB.out)))); have n1_ := Aside0.mk (below_step (by repeat (first | (with_reducible first | exact HB.out | apply below_alloc | apply pw_below_drewN | apply below_drew1) | exact HB.out)) hb); clear HB; have HO220 := n0_; have HB := n1_; clear n0_ n1_; clear hb ho10; obtain ⟨Ao11, co11, eo11⟩ := Kd.R_slice HO220.out; subst eo11) | ((with_reducible refine look_callee (f := 15) rfl ?_); refine goesL_ (some 15) rfl rfl Tryd.func15 (by kernel_rfl) rfl #[.slice Ao11 y218.length co11] rfl (by (try simp only [List.map_toArray, List.map_cons, List.map_nil]); first | done | rfl | (simp only [List.length_drop, List.length_take]; rfl)) ?_; (with_reducible refine (tree_Root.calls _ _ y218 t221 t222 _ ?side1 ?side2 ?side3 A4.out).mono ?_); (case side1 => exact hT.below (by repeat (first | (with_reducible first | exact HB.out | apply below_alloc | apply pw_below_drewN | apply below_drew1) | exact HB.out)) hT.size); (case side2 => repeat (first | exact (Kd.R_reads' HO220.out).2.2 | (with_reducible refine Kd.C_alloc ?_ _) | (with_reducible refine Kd.C_drewN ?_ _) | (with_reducible refine Kd.C_drew ?_))); (case side3 => exact (Kd.R_reads' HO220.out).2.1); rintro e w12 ⟨rfl, hb⟩; refine ⟨_, rfl, ?_⟩; have n0_ := Aside0.mk (Kd.R_below (by (with_reducible repeat (first | apply Kd.R_alloc | apply Kd.R_drewN | apply Kd.R_drew)); exact HO220.out) hb); have n1_ := Aside0.mk (below_step (by repeat (first | (with_reducible first | exact HB.out | apply below_alloc | apply pw_below_drewN | apply below_drew1) | exact HB.out)) hb); clear HO220; clear HB; have HO220 := n0_; have HB := n1_; clear n0_ n1_; (try clear hb); (try clear hb2); (try clear hk); (try clear hi)) | ((with_reducible refine look_callee (f := 19) rfl ?_); refine goesL_ (some 21) rfl rfl Tryd.func19 (by kernel_rfl) rfl #[.string a1] rfl (by (try simp only [List.map_toArray, List.map_cons, List.map_nil]); first | done | rfl | (simp only [List.length_drop, List.length_take]; rfl)) ?_; (with_reducible refine (tree_Leaf.calls a1 t223 _ ?side1 A5.out).mono ?_); (case side1 => exact hT.below (by repeat (first | (with_reducible first | exact HB.out | apply below_alloc | apply pw_below_drewN | apply below_drew1) | exact HB.out)) hT.size); rintro e w13 ⟨rfl, hb⟩; refine ⟨_, rfl, ?_⟩; have n0_ := Aside0.mk (Kd.R_below (by (with_reducible repeat (first | apply Kd.R_alloc | apply Kd.R_drewN | apply Kd.R_drew)); exact HO220.out) hb); have n1_ := Aside0.mk (below_step (by repeat (first | (with_reducible first | exact HB.out | apply below_alloc | apply pw_below_drewN | apply below_drew1) | exact HB.out)) hb); clear HO220; clear HB; have HO220 := n0_; have HB := n1_; clear n0_ n1_; (try clear hb); (try clear hb2); (try clear hk); (try clear hi)) | ((with_reducible refine gate_dst (N := 22) rfl ?_); (try (refine gate_guard (by rfl) ?_; dsimp only)); refine Kd.R_lit Kd.string _ 9 ?hg (N := 22) ?hd (xs := ([t223] : List ByteArray)) (inner := [.string t223]) (ok := fun _ => True) (okp := fun _ => True) ?hr ?hp (fun _ hk => hk) trivial (Below.refl _ _) (Nat.le_refl _) (by simp) ?_; (case hd => rfl); (case hg => rfl); (case hr => first | (go_simp; done) | (go_simp; rfl)); (case hp => exact (Reps.one (show Kd.M Kd.string _ _ _ t223 [.string t223] from rfl) (Reps.none _ _))); intro v225 w14 ho15 hb hg_ hnew_; clear hg_ hnew_; (first | rw [← Ny224.out] at ho15 | (simp only [Int.reduceToNat] at ho15; rw [← Ny224.out] at ho15)); have n0_ := Aside0.mk (Kd.R_elder' (by (with_reducible repeat (first | apply Kd.R_alloc | apply Kd.R_drewN | apply Kd.R_drew)); exact HO220.out) (Kd.R_base ho15) hb); have n1_ := Aside0.mk (Kd.R_lower (Kd.R_new' ho15 (Kd.R_lt (by (with_reducible repeat (first | apply Kd.R_alloc | apply Kd.R_drewN | apply Kd.R_drew)); exact HO220.out))) (below_size (by repeat (first | (with_reducible first | exact HB.out | apply below_alloc | apply pw_below_drewN | apply below_drew1) | exact HB.out)))); have n2_ := Aside0.mk (below_step (by repeat (first | (with_reducible first | exact HB.out | apply below_alloc | apply pw_below_drewN | apply below_drew1) | exact HB.out)) hb); clear HO220; clear HB; have HO220 := n0_; have HO226 := n1_; have HB := n2_; clear n0_ n1_ n2_; clear hb ho15; obtain ⟨Ao16, co16, eo16⟩ := Kd.R_slice HO226.out; subst eo16) | ((with_reducible refine look_callee (f := 25) rfl ?_); refine goesL_ (some 23) rfl rfl Tryd.func25 (by kernel_rfl) rfl #[.int .i64 2, .int .i64 0, .string a0, .slice Ao16 y224.length co16] rfl (by (try simp only [List.map_toArray, List.map_cons, List.map_nil]); first | done | rfl | (simp only [List.length_drop, List.length_take]; rfl)) ?_; (with_reducible refine (tree_Climb.calls 2 0 a0 _ _ y224 t227 t228 _ ?side1 ?side2 ?side3 A6.out).mono ?_); (case side1 => exact hT.below (by repeat (first | (with_reducible first | exact HB.out | apply below_alloc | apply pw_below_drewN | apply below_drew1) | exact HB.out)) hT.size); (case side2 => repeat (first | exact (Kd.R_reads' HO226.out).2.2 | (with_reducible refine Kd.C_alloc ?_ _) | (with_reducible refine Kd.C_drewN ?_ _) | (with_reducible refine Kd.C_drew ?_))); (case side3 => exact (Kd.R_reads' HO226.out).2.1); rintro e w17 ⟨v229, rfl, ho0, hb⟩; refine ⟨_, rfl, ?_⟩; have n0_ := Aside0.mk (Kd.R_elder' (by (with_reducible repeat (first | apply Kd.R_alloc | apply Kd.R_drewN | apply Kd.R_drew)); exact HO220.out) (Kd.R_base ho0) hb); have n1_ := Aside0.mk (Kd.R_elder' (by (with_reducible repeat (first | apply Kd.R_alloc | apply Kd.R_drewN | apply Kd.R_drew)); exact HO226.out) (Kd.R_base ho0) hb); have n2_ := Aside0.mk (Kd.R_lower (Kd.R_new' (Kd.R_new' ho0 (Kd.R_lt (by (with_reducible repeat (first | apply Kd.R_alloc | apply Kd.R_drewN | apply Kd.R_drew)); exact HO220.out))) (Kd.R_lt (by (with_reducible repeat (first | apply Kd.R_alloc | apply Kd.R_drewN | apply Kd.R_drew)); exact HO226.out))) (below_size (by repeat (first | (with_reducible first | exact HB.out | apply below_alloc | apply pw_below_drewN | apply below_drew1) | exact HB.out)))); have n3_ := Aside0.mk (below_step (by repeat (first | (with_reducible first | exact HB.out | apply below_alloc | apply pw_below_drewN | apply below_drew1) | exact HB.out)) hb); clear HO220; clear HO226; clear HB; have HO220 := n0_; have HO226 := n1_; have HO230 := n2_; have HB := n3_; clear n0_ n1_ n2_ n3_; (try clear hb); (try clear hb2); (try clear hk); (try clear hi); (try clear ho0)))
  (try simp only [Act.put, List.setIfInBounds_toArray, List.set_cons_zero, List.set_cons_succ])
  go_cut [36] (fun v36 wc => ∃ (kq : Nat) (x36_6 : Bool), v36 = .bool x36_6 ∧ Aside0 (cartouchelaw03_TreeHalves.j0 kq a0 a1 t217 t221 t227 x36_6 = some r) ∧ Aside0 (kq ≤ k) ∧ Aside0 (Kd.R Kd.string 9 wc w.heap.size (fun _ => True) v229 t227) ∧ Aside0 (Below w.heap.size w wc))
  case first =>
    have H := HC7.out
    clear HC7
    by_cases c18 : t222 = 0
    · rw [if_pos c18] at H
      have c18b0 : (t222 == 0) = true := beq_iff_eq.mpr c18
      have c18b1 : (t222 != 0) = false := bne_eq_false_iff_eq.mpr c18
      clear c18
      (first | rw [c18b0] | (simp only [i64_w, i32_w]; rw [c18b0]) | skip)
      by_cases c19 : t228 = 0
      · rw [if_pos c19] at H
        have c19b0 : (t228 == 0) = true := beq_iff_eq.mpr c19
        have c19b1 : (t228 != 0) = false := bne_eq_false_iff_eq.mpr c19
        clear c19
        have H' := Aside0.mk H
        clear H
        obtain ⟨Ao20, co20, eo20⟩ := Kd.R_slice HO230.out
        subst eo20
        go_wp2
        go_meet
        case rel => exact ⟨_, (((t227.length : Int) != 3)), (by first | rfl | (simp; done) | (simp [*]; done)), H', ⟨by first | omega | exact Nat.le_refl _⟩, ⟨by (with_reducible repeat (first | apply Kd.R_alloc | apply Kd.R_drewN | apply Kd.R_drew)); exact Kd.R_mono HO230.out (fun _ hk => trivial)⟩, ⟨by repeat (first | (with_reducible first | exact HB.out | apply below_alloc | apply pw_below_drewN | apply below_drew1) | exact HB.out)⟩⟩
      · rw [if_neg c19] at H
        have c19b0 : (t228 == 0) = false := beq_eq_false_iff_ne.mpr c19
        have c19b1 : (t228 != 0) = true := bne_iff_ne.mpr c19
        have H' := Aside0.mk H
        clear H
        go_wp2
        go_meet
        case rel => exact ⟨_, (true), (by first | rfl | (simp; done) | (simp [*]; done)), H', ⟨by first | omega | exact Nat.le_refl _⟩, ⟨by (with_reducible repeat (first | apply Kd.R_alloc | apply Kd.R_drewN | apply Kd.R_drew)); exact Kd.R_mono HO230.out (fun _ hk => trivial)⟩, ⟨by repeat (first | (with_reducible first | exact HB.out | apply below_alloc | apply pw_below_drewN | apply below_drew1) | exact HB.out)⟩⟩
    · rw [if_neg c18] at H
      have c18b0 : (t222 == 0) = false := beq_eq_false_iff_ne.mpr c18
      have c18b1 : (t222 != 0) = true := bne_iff_ne.mpr c18
      (first | rw [c18b0] | (simp only [i64_w, i32_w]; rw [c18b0]) | skip)
      have H' := Aside0.mk H
      clear H
      go_wp2
      go_meet
      case rel => exact ⟨_, (true), (by first | rfl | (simp; done) | (simp [*]; done)), H', ⟨by first | omega | exact Nat.le_refl _⟩, ⟨by (with_reducible repeat (first | apply Kd.R_alloc | apply Kd.R_drewN | apply Kd.R_drew)); exact Kd.R_mono HO230.out (fun _ hk => trivial)⟩, ⟨by repeat (first | (with_reducible first | exact HB.out | apply below_alloc | apply pw_below_drewN | apply below_drew1) | exact HB.out)⟩⟩
  case rest =>
    clear HC7
    try clear c1
    try clear c2
    try clear p2
    try clear c6
    try clear c12
    try clear c15
    try clear c18
    try clear c18b0
    try clear c18b1
    try clear c19
    try clear c19b0
    try clear c19b1
    obtain ⟨kq, x36_6, rfl, HA, HJ6, HO_8, HB⟩ := hcut
    cases kq with
    | zero => exact absurd HA.out (by simp [cartouchelaw03_TreeHalves.j0])
    | succ kj6 =>
      have H := HA.out
      clear HA
      simp only [cartouchelaw03_TreeHalves.j0] at H
      by_cases c21 : x36_6 = true
      · subst c21
        have H1 : (some false) = some r := by rw [if_pos rfl] at H; exact H
        clear H
        have H := H1
        clear H1
        obtain rfl := Option.some.inj H
        go_wp2
        go_ret
        exact ⟨by first | rfl | (simp [errW_none, errW_some] <;> rfl) | (simp [*, errW_none, errW_some] <;> rfl), by repeat (first | (with_reducible first | exact HB.out | apply below_alloc | apply pw_below_drewN | apply below_drew1) | exact HB.out)⟩
      · replace c21 := Bool.eq_false_iff.mpr c21
        subst c21
        have H1 : (if t217 = true then (if 2 < (t227.length : Int) then ((blake_Sum.f (rdOf ByteArray.empty t227 2)).bind fun t232 => (if t232.toList = t221.toList then (if 1 < (t227.length : Int) then ((blake_Sum.f (rdOf ByteArray.empty t227 1)).bind fun t234 => ((tree_Leaf.f a0).bind fun t235 => ((tree_Leaf.f a1).bind fun t236 => ((tree_Node.f t235 t236).bind fun t237 => (if t234.toList = t237.toList then (if 0 < (t227.length : Int) then ((blake_Sum.f (rdOf ByteArray.empty t227 0)).bind fun t239 => ((tree_Leaf.f a0).bind fun t240 => (some (t239.toList == t240.toList)))) else (none)) else (some false)))))) else (none)) else (some false))) else (none)) else (some false)) = some r := by rw [if_neg (show ¬ (false = true) by decide)] at H; exact H
        clear H
        have H := H1
        clear H1
        by_cases c22 : t217 = true
        · subst c22
          have H1 : (if 2 < (t227.length : Int) then ((blake_Sum.f (rdOf ByteArray.empty t227 2)).bind fun t232 => (if t232.toList = t221.toList then (if 1 < (t227.length : Int) then ((blake_Sum.f (rdOf ByteArray.empty t227 1)).bind fun t234 => ((tree_Leaf.f a0).bind fun t235 => ((tree_Leaf.f a1).bind fun t236 => ((tree_Node.f t235 t236).bind fun t237 => (if t234.toList = t237.toList then (if 0 < (t227.length : Int) then ((blake_Sum.f (rdOf ByteArray.empty t227 0)).bind fun t239 => ((tree_Leaf.f a0).bind fun t240 => (some (t239.toList == t240.toList)))) else (none)) else (some false)))))) else (none)) else (some false))) else (none)) = some r := by rw [if_pos rfl] at H; exact H
          clear H
          have H := H1
          clear H1
          by_cases c23 : 2 < (t227.length : Int)
          · rw [if_pos c23] at H
            have c23b0 : decide (2 < (t227.length : Int)) = true := decide_eq_true c23
            have c23b1 : decide (2 < t227.length) = true := decide_eq_true (by omega)
            clear c23
            replace H := Option.bind_eq_some_iff.mp H
            obtain ⟨t232, A240, H⟩ := H
            replace H : (if t232.toList = t221.toList then (if 1 < (t227.length : Int) then ((blake_Sum.f (rdOf ByteArray.empty t227 1)).bind fun t234 => ((tree_Leaf.f a0).bind fun t235 => ((tree_Leaf.f a1).bind fun t236 => ((tree_Node.f t235 t236).bind fun t237 => (if t234.toList = t237.toList then (if 0 < (t227.length : Int) then ((blake_Sum.f (rdOf ByteArray.empty t227 0)).bind fun t239 => ((tree_Leaf.f a0).bind fun t240 => (some (t239.toList == t240.toList)))) else (none)) else (some false)))))) else (none)) else (some false)) = some r := H
            have A24 := Aside0.mk A240
            clear A240
            by_cases c25 : t232.toList = t221.toList
            · rw [if_pos c25] at H
              have c25b0 : (t232.toList == t221.toList) = true := beq_iff_eq.mpr c25
              have c25b1 : (t232.toList != t221.toList) = false := bne_eq_false_iff_eq.mpr c25
              clear c25
              by_cases c26 : 1 < (t227.length : Int)
              · rw [if_pos c26] at H
                have c26b0 : decide (1 < (t227.length : Int)) = true := decide_eq_true c26
                have c26b1 : decide (1 < t227.length) = true := decide_eq_true (by omega)
                clear c26
                replace H := Option.bind_eq_some_iff.mp H
                obtain ⟨t234, A270, H⟩ := H
                replace H : ((tree_Leaf.f a0).bind fun t235 => ((tree_Leaf.f a1).bind fun t236 => ((tree_Node.f t235 t236).bind fun t237 => (if t234.toList = t237.toList then (if 0 < (t227.length : Int) then ((blake_Sum.f (rdOf ByteArray.empty t227 0)).bind fun t239 => ((tree_Leaf.f a0).bind fun t240 => (some (t239.toList == t240.toList)))) else (none)) else (some false))))) = some r := H
                have A27 := Aside0.mk A270
                clear A270
                replace H := Option.bind_eq_some_iff.mp H
                obtain ⟨t235, A280, H⟩ := H
                replace H : ((tree_Leaf.f a1).bind fun t236 => ((tree_Node.f t235 t236).bind fun t237 => (if t234.toList = t237.toList then (if 0 < (t227.length : Int) then ((blake_Sum.f (rdOf ByteArray.empty t227 0)).bind fun t239 => ((tree_Leaf.f a0).bind fun t240 => (some (t239.toList == t240.toList)))) else (none)) else (some false)))) = some r := H
                have A28 := Aside0.mk A280
                clear A280
                replace H := Option.bind_eq_some_iff.mp H
                obtain ⟨t236, A290, H⟩ := H
                have Et236 := Aside0.mk (Option.some.inj (A290.symm.trans A5.out))
                replace H : ((tree_Node.f t235 t236).bind fun t237 => (if t234.toList = t237.toList then (if 0 < (t227.length : Int) then ((blake_Sum.f (rdOf ByteArray.empty t227 0)).bind fun t239 => ((tree_Leaf.f a0).bind fun t240 => (some (t239.toList == t240.toList)))) else (none)) else (some false))) = some r := H
                have A29 := Aside0.mk A290
                clear A290
                replace H := Option.bind_eq_some_iff.mp H
                obtain ⟨t237, A300, H⟩ := H
                replace H : (if t234.toList = t237.toList then (if 0 < (t227.length : Int) then ((blake_Sum.f (rdOf ByteArray.empty t227 0)).bind fun t239 => ((tree_Leaf.f a0).bind fun t240 => (some (t239.toList == t240.toList)))) else (none)) else (some false)) = some r := H
                have A30 := Aside0.mk A300
                clear A300
                by_cases c31 : t234.toList = t237.toList
                · rw [if_pos c31] at H
                  have c31b0 : (t234.toList == t237.toList) = true := beq_iff_eq.mpr c31
                  have c31b1 : (t234.toList != t237.toList) = false := bne_eq_false_iff_eq.mpr c31
                  clear c31
                  by_cases c32 : 0 < (t227.length : Int)
                  · rw [if_pos c32] at H
                    have c32b0 : decide (0 < (t227.length : Int)) = true := decide_eq_true c32
                    have c32b1 : decide (0 < t227.length) = true := decide_eq_true (by omega)
                    clear c32
                    replace H := Option.bind_eq_some_iff.mp H
                    obtain ⟨t239, A330, H⟩ := H
                    replace H : ((tree_Leaf.f a0).bind fun t240 => (some (t239.toList == t240.toList))) = some r := H
                    have A33 := Aside0.mk A330
                    clear A330
                    replace H := Option.bind_eq_some_iff.mp H
                    obtain ⟨t240, A340, H⟩ := H
                    have Et240 := Aside0.mk (Option.some.inj (A340.symm.trans A28.out))
                    replace H : (some (t239.toList == t240.toList)) = some r := H
                    have A34 := Aside0.mk A340
                    clear A340
                    obtain rfl := Option.some.inj H
                    obtain ⟨Ao35, co35, eo35⟩ := Kd.R_slice HO_8.out
                    subst eo35
                    have p231 : 0 ≤ (2 : Int) := (by omega)
                    have q231 : 2 < (t227.length : Int) := of_decide_eq_true (by first | (with_reducible assumption) | assumption)
                    obtain ⟨ad231, e231, hx231_0⟩ := Kd.at_string (Kd.R_reads' HO_8.out).2.2 2 p231 q231
                    cases e231
                    (try simp only [show (2 : Int).toNat = 2 from rfl, Nat.reduceMul, Nat.reduceEqDiff, Go.Addr.add, ↓reduceIte] at hx231_0)
                    have qi231 : (2 < t227.length) = True := eq_true (by omega)
                    (try rw [show ((2 : Int)).toNat = 2 from rfl] at hx231_0)
                    replace p231 := eq_true p231
                    replace q231 := eq_true q231
                    go_wp2_with (first | (go_at_call 26; (with_reducible refine (blake_Sum.calls (rdOf ByteArray.empty t227 2) t232 _ ?side1 A24.out).mono ?_); (case side1 => exact hT.below (by repeat (first | (with_reducible first | exact HB.out | apply below_alloc | apply pw_below_drewN | apply below_drew1) | exact HB.out)) hT.size); rintro e w36 ⟨rfl, hb⟩; have n0_ := Aside0.mk (Kd.R_below (by (with_reducible repeat (first | apply Kd.R_alloc | apply Kd.R_drewN | apply Kd.R_drew)); exact HO_8.out) hb); have n1_ := Aside0.mk (below_step (by repeat (first | (with_reducible first | exact HB.out | apply below_alloc | apply pw_below_drewN | apply below_drew1) | exact HB.out)) hb); clear HO_8; clear HB; have HO_8 := n0_; have HB := n1_; clear n0_ n1_; (try clear hb); (try clear hb2); (try clear hk); (try clear hi); have p233 : 0 ≤ (1 : Int) := (by omega); have q233 : 1 < (t227.length : Int) := of_decide_eq_true (by first | (with_reducible assumption) | assumption); obtain ⟨ad233, e233, hx233_0⟩ := Kd.at_string (Kd.R_reads' HO_8.out).2.2 1 p233 q233; obtain rfl : ad231 = ad233 := (by injection e233); (try simp only [show (1 : Int).toNat = 1 from rfl, Nat.reduceMul, Nat.reduceEqDiff, Go.Addr.add, ↓reduceIte] at hx233_0); have qi233 : (1 < t227.length) = True := eq_true (by omega); (try rw [show ((1 : Int)).toNat = 1 from rfl] at hx233_0); replace p233 := eq_true p233; replace q233 := eq_true q233) | (go_at_call 26; (with_reducible refine (blake_Sum.calls (rdOf ByteArray.empty t227 1) t234 _ ?side1 A27.out).mono ?_); (case side1 => exact hT.below (by repeat (first | (with_reducible first | exact HB.out | apply below_alloc | apply pw_below_drewN | apply below_drew1) | exact HB.out)) hT.size); rintro e w37 ⟨rfl, hb⟩; have n0_ := Aside0.mk (Kd.R_below (by (with_reducible repeat (first | apply Kd.R_alloc | apply Kd.R_drewN | apply Kd.R_drew)); exact HO_8.out) hb); have n1_ := Aside0.mk (below_step (by repeat (first | (with_reducible first | exact HB.out | apply below_alloc | apply pw_below_drewN | apply below_drew1) | exact HB.out)) hb); clear HO_8; clear HB; have HO_8 := n0_; have HB := n1_; clear n0_ n1_; (try clear hb); (try clear hb2); (try clear hk); (try clear hi)) | (go_at_call 19; (with_reducible refine (tree_Leaf.calls a0 t235 _ ?side1 A28.out).mono ?_); (case side1 => exact hT.below (by repeat (first | (with_reducible first | exact HB.out | apply below_alloc | apply pw_below_drewN | apply below_drew1) | exact HB.out)) hT.size); rintro e w38 ⟨rfl, hb⟩; have n0_ := Aside0.mk (Kd.R_below (by (with_reducible repeat (first | apply Kd.R_alloc | apply Kd.R_drewN | apply Kd.R_drew)); exact HO_8.out) hb); have n1_ := Aside0.mk (below_step (by repeat (first | (with_reducible first | exact HB.out | apply below_alloc | apply pw_below_drewN | apply below_drew1) | exact HB.out)) hb); clear HO_8; clear HB; have HO_8 := n0_; have HB := n1_; clear n0_ n1_; (try clear hb); (try clear hb2); (try clear hk); (try clear hi)) | (go_at_call 19; (with_reducible refine (tree_Leaf.calls a1 t236 _ ?side1 A29.out).mono ?_); (case side1 => exact hT.below (by repeat (first | (with_reducible first | exact HB.out | apply below_alloc | apply pw_below_drewN | apply below_drew1) | exact HB.out)) hT.size); rintro e w39 ⟨rfl, hb⟩; have n0_ := Aside0.mk (Kd.R_below (by (with_reducible repeat (first | apply Kd.R_alloc | apply Kd.R_drewN | apply Kd.R_drew)); exact HO_8.out) hb); have n1_ := Aside0.mk (below_step (by repeat (first | (with_reducible first | exact HB.out | apply below_alloc | apply pw_below_drewN | apply below_drew1) | exact HB.out)) hb); clear HO_8; clear HB; have HO_8 := n0_; have HB := n1_; clear n0_ n1_; (try clear hb); (try clear hb2); (try clear hk); (try clear hi)) | (go_at_call 21; (with_reducible refine (tree_Node.calls t235 t236 t237 _ ?side1 A30.out).mono ?_); (case side1 => exact hT.below (by repeat (first | (with_reducible first | exact HB.out | apply below_alloc | apply pw_below_drewN | apply below_drew1) | exact HB.out)) hT.size); rintro e w40 ⟨rfl, hb⟩; have n0_ := Aside0.mk (Kd.R_below (by (with_reducible repeat (first | apply Kd.R_alloc | apply Kd.R_drewN | apply Kd.R_drew)); exact HO_8.out) hb); have n1_ := Aside0.mk (below_step (by repeat (first | (with_reducible first | exact HB.out | apply below_alloc | apply pw_below_drewN | apply below_drew1) | exact HB.out)) hb); clear HO_8; clear HB; have HO_8 := n0_; have HB := n1_; clear n0_ n1_; (try clear hb); (try clear hb2); (try clear hk); (try clear hi); have p238 : 0 ≤ (0 : Int) := (by omega); have q238 : 0 < (t227.length : Int) := of_decide_eq_true (by first | (with_reducible assumption) | assumption); obtain ⟨ad238, e238, hx238_0⟩ := Kd.at_string (Kd.R_reads' HO_8.out).2.2 0 p238 q238; obtain rfl : ad231 = ad238 := (by injection e238); have qi238 : (0 < t227.length) = True := eq_true (by omega); (try rw [show ((0 : Int)).toNat = 0 from rfl] at hx238_0); (try rw [Addr.add_zero'] at hx238_0); replace p238 := eq_true p238; replace q238 := eq_true q238) | (go_at_call 26; (with_reducible refine (blake_Sum.calls (rdOf ByteArray.empty t227 0) t239 _ ?side1 A33.out).mono ?_); (case side1 => exact hT.below (by repeat (first | (with_reducible first | exact HB.out | apply below_alloc | apply pw_below_drewN | apply below_drew1) | exact HB.out)) hT.size); rintro e w41 ⟨rfl, hb⟩; have n0_ := Aside0.mk (Kd.R_below (by (with_reducible repeat (first | apply Kd.R_alloc | apply Kd.R_drewN | apply Kd.R_drew)); exact HO_8.out) hb); have n1_ := Aside0.mk (below_step (by repeat (first | (with_reducible first | exact HB.out | apply below_alloc | apply pw_below_drewN | apply below_drew1) | exact HB.out)) hb); clear HO_8; clear HB; have HO_8 := n0_; have HB := n1_; clear n0_ n1_; (try clear hb); (try clear hb2); (try clear hk); (try clear hi)) | (go_at_call 19; (with_reducible refine (tree_Leaf.calls a0 t240 _ ?side1 A34.out).mono ?_); (case side1 => exact hT.below (by repeat (first | (with_reducible first | exact HB.out | apply below_alloc | apply pw_below_drewN | apply below_drew1) | exact HB.out)) hT.size); rintro e w42 ⟨rfl, hb⟩; have n0_ := Aside0.mk (Kd.R_below (by (with_reducible repeat (first | apply Kd.R_alloc | apply Kd.R_drewN | apply Kd.R_drew)); exact HO_8.out) hb); have n1_ := Aside0.mk (below_step (by repeat (first | (with_reducible first | exact HB.out | apply below_alloc | apply pw_below_drewN | apply below_drew1) | exact HB.out)) hb); clear HO_8; clear HB; have HO_8 := n0_; have HB := n1_; clear n0_ n1_; (try clear hb); (try clear hb2); (try clear hk); (try clear hi)))
                    go_ret
                    exact ⟨by first | rfl | (rw [Et236.out, Et240.out]; rfl) | (simp [errW_none, errW_some] <;> rfl) | (simp [*, errW_none, errW_some] <;> rfl), by repeat (first | (with_reducible first | exact HB.out | apply below_alloc | apply pw_below_drewN | apply below_drew1) | exact HB.out)⟩
                  · rw [if_neg c32] at H
                    exact absurd H (by simp)
                · rw [if_neg c31] at H
                  have c31b0 : (t234.toList == t237.toList) = false := beq_eq_false_iff_ne.mpr c31
                  have c31b1 : (t234.toList != t237.toList) = true := bne_iff_ne.mpr c31
                  obtain rfl := Option.some.inj H
                  obtain ⟨Ao43, co43, eo43⟩ := Kd.R_slice HO_8.out
                  subst eo43
                  have p231 : 0 ≤ (2 : Int) := (by omega)
                  have q231 : 2 < (t227.length : Int) := of_decide_eq_true (by first | (with_reducible assumption) | assumption)
                  obtain ⟨ad231, e231, hx231_0⟩ := Kd.at_string (Kd.R_reads' HO_8.out).2.2 2 p231 q231
                  cases e231
                  (try simp only [show (2 : Int).toNat = 2 from rfl, Nat.reduceMul, Nat.reduceEqDiff, Go.Addr.add, ↓reduceIte] at hx231_0)
                  have qi231 : (2 < t227.length) = True := eq_true (by omega)
                  (try rw [show ((2 : Int)).toNat = 2 from rfl] at hx231_0)
                  replace p231 := eq_true p231
                  replace q231 := eq_true q231
                  go_wp2_with (first | (go_at_call 26; (with_reducible refine (blake_Sum.calls (rdOf ByteArray.empty t227 2) t232 _ ?side1 A24.out).mono ?_); (case side1 => exact hT.below (by repeat (first | (with_reducible first | exact HB.out | apply below_alloc | apply pw_below_drewN | apply below_drew1) | exact HB.out)) hT.size); rintro e w44 ⟨rfl, hb⟩; have n0_ := Aside0.mk (Kd.R_below (by (with_reducible repeat (first | apply Kd.R_alloc | apply Kd.R_drewN | apply Kd.R_drew)); exact HO_8.out) hb); have n1_ := Aside0.mk (below_step (by repeat (first | (with_reducible first | exact HB.out | apply below_alloc | apply pw_below_drewN | apply below_drew1) | exact HB.out)) hb); clear HO_8; clear HB; have HO_8 := n0_; have HB := n1_; clear n0_ n1_; (try clear hb); (try clear hb2); (try clear hk); (try clear hi); have p233 : 0 ≤ (1 : Int) := (by omega); have q233 : 1 < (t227.length : Int) := of_decide_eq_true (by first | (with_reducible assumption) | assumption); obtain ⟨ad233, e233, hx233_0⟩ := Kd.at_string (Kd.R_reads' HO_8.out).2.2 1 p233 q233; obtain rfl : ad231 = ad233 := (by injection e233); (try simp only [show (1 : Int).toNat = 1 from rfl, Nat.reduceMul, Nat.reduceEqDiff, Go.Addr.add, ↓reduceIte] at hx233_0); have qi233 : (1 < t227.length) = True := eq_true (by omega); (try rw [show ((1 : Int)).toNat = 1 from rfl] at hx233_0); replace p233 := eq_true p233; replace q233 := eq_true q233) | (go_at_call 26; (with_reducible refine (blake_Sum.calls (rdOf ByteArray.empty t227 1) t234 _ ?side1 A27.out).mono ?_); (case side1 => exact hT.below (by repeat (first | (with_reducible first | exact HB.out | apply below_alloc | apply pw_below_drewN | apply below_drew1) | exact HB.out)) hT.size); rintro e w45 ⟨rfl, hb⟩; have n0_ := Aside0.mk (Kd.R_below (by (with_reducible repeat (first | apply Kd.R_alloc | apply Kd.R_drewN | apply Kd.R_drew)); exact HO_8.out) hb); have n1_ := Aside0.mk (below_step (by repeat (first | (with_reducible first | exact HB.out | apply below_alloc | apply pw_below_drewN | apply below_drew1) | exact HB.out)) hb); clear HO_8; clear HB; have HO_8 := n0_; have HB := n1_; clear n0_ n1_; (try clear hb); (try clear hb2); (try clear hk); (try clear hi)) | (go_at_call 19; (with_reducible refine (tree_Leaf.calls a0 t235 _ ?side1 A28.out).mono ?_); (case side1 => exact hT.below (by repeat (first | (with_reducible first | exact HB.out | apply below_alloc | apply pw_below_drewN | apply below_drew1) | exact HB.out)) hT.size); rintro e w46 ⟨rfl, hb⟩; have n0_ := Aside0.mk (Kd.R_below (by (with_reducible repeat (first | apply Kd.R_alloc | apply Kd.R_drewN | apply Kd.R_drew)); exact HO_8.out) hb); have n1_ := Aside0.mk (below_step (by repeat (first | (with_reducible first | exact HB.out | apply below_alloc | apply pw_below_drewN | apply below_drew1) | exact HB.out)) hb); clear HO_8; clear HB; have HO_8 := n0_; have HB := n1_; clear n0_ n1_; (try clear hb); (try clear hb2); (try clear hk); (try clear hi)) | (go_at_call 19; (with_reducible refine (tree_Leaf.calls a1 t236 _ ?side1 A29.out).mono ?_); (case side1 => exact hT.below (by repeat (first | (with_reducible first | exact HB.out | apply below_alloc | apply pw_below_drewN | apply below_drew1) | exact HB.out)) hT.size); rintro e w47 ⟨rfl, hb⟩; have n0_ := Aside0.mk (Kd.R_below (by (with_reducible repeat (first | apply Kd.R_alloc | apply Kd.R_drewN | apply Kd.R_drew)); exact HO_8.out) hb); have n1_ := Aside0.mk (below_step (by repeat (first | (with_reducible first | exact HB.out | apply below_alloc | apply pw_below_drewN | apply below_drew1) | exact HB.out)) hb); clear HO_8; clear HB; have HO_8 := n0_; have HB := n1_; clear n0_ n1_; (try clear hb); (try clear hb2); (try clear hk); (try clear hi)) | (go_at_call 21; (with_reducible refine (tree_Node.calls t235 t236 t237 _ ?side1 A30.out).mono ?_); (case side1 => exact hT.below (by repeat (first | (with_reducible first | exact HB.out | apply below_alloc | apply pw_below_drewN | apply below_drew1) | exact HB.out)) hT.size); rintro e w48 ⟨rfl, hb⟩; have n0_ := Aside0.mk (Kd.R_below (by (with_reducible repeat (first | apply Kd.R_alloc | apply Kd.R_drewN | apply Kd.R_drew)); exact HO_8.out) hb); have n1_ := Aside0.mk (below_step (by repeat (first | (with_reducible first | exact HB.out | apply below_alloc | apply pw_below_drewN | apply below_drew1) | exact HB.out)) hb); clear HO_8; clear HB; have HO_8 := n0_; have HB := n1_; clear n0_ n1_; (try clear hb); (try clear hb2); (try clear hk); (try clear hi)))
                  go_ret
                  exact ⟨by first | rfl | (rw [Et236.out]; rfl) | (simp [errW_none, errW_some] <;> rfl) | (simp [*, errW_none, errW_some] <;> rfl), by repeat (first | (with_reducible first | exact HB.out | apply below_alloc | apply pw_below_drewN | apply below_drew1) | exact HB.out)⟩
              · rw [if_neg c26] at H
                exact absurd H (by simp)
            · rw [if_neg c25] at H
              have c25b0 : (t232.toList == t221.toList) = false := beq_eq_false_iff_ne.mpr c25
              have c25b1 : (t232.toList != t221.toList) = true := bne_iff_ne.mpr c25
              obtain rfl := Option.some.inj H
              obtain ⟨Ao49, co49, eo49⟩ := Kd.R_slice HO_8.out
              subst eo49
              have p231 : 0 ≤ (2 : Int) := (by omega)
              have q231 : 2 < (t227.length : Int) := of_decide_eq_true (by first | (with_reducible assumption) | assumption)
              obtain ⟨ad231, e231, hx231_0⟩ := Kd.at_string (Kd.R_reads' HO_8.out).2.2 2 p231 q231
              cases e231
              (try simp only [show (2 : Int).toNat = 2 from rfl, Nat.reduceMul, Nat.reduceEqDiff, Go.Addr.add, ↓reduceIte] at hx231_0)
              have qi231 : (2 < t227.length) = True := eq_true (by omega)
              (try rw [show ((2 : Int)).toNat = 2 from rfl] at hx231_0)
              replace p231 := eq_true p231
              replace q231 := eq_true q231
              go_wp2_with (first | (go_at_call 26; (with_reducible refine (blake_Sum.calls (rdOf ByteArray.empty t227 2) t232 _ ?side1 A24.out).mono ?_); (case side1 => exact hT.below (by repeat (first | (with_reducible first | exact HB.out | apply below_alloc | apply pw_below_drewN | apply below_drew1) | exact HB.out)) hT.size); rintro e w50 ⟨rfl, hb⟩; have n0_ := Aside0.mk (Kd.R_below (by (with_reducible repeat (first | apply Kd.R_alloc | apply Kd.R_drewN | apply Kd.R_drew)); exact HO_8.out) hb); have n1_ := Aside0.mk (below_step (by repeat (first | (with_reducible first | exact HB.out | apply below_alloc | apply pw_below_drewN | apply below_drew1) | exact HB.out)) hb); clear HO_8; clear HB; have HO_8 := n0_; have HB := n1_; clear n0_ n1_; (try clear hb); (try clear hb2); (try clear hk); (try clear hi)))
              go_ret
              exact ⟨by first | rfl | (simp [errW_none, errW_some] <;> rfl) | (simp [*, errW_none, errW_some] <;> rfl), by repeat (first | (with_reducible first | exact HB.out | apply below_alloc | apply pw_below_drewN | apply below_drew1) | exact HB.out)⟩
          · rw [if_neg c23] at H
            exact absurd H (by simp)
        · replace c22 := Bool.eq_false_iff.mpr c22
          subst c22
          have H1 : (some false) = some r := by rw [if_neg (show ¬ (false = true) by decide)] at H; exact H
          clear H
          have H := H1
          clear H1
          obtain rfl := Option.some.inj H
          go_wp2
          go_ret
          exact ⟨by first | rfl | (simp [errW_none, errW_some] <;> rfl) | (simp [*, errW_none, errW_some] <;> rfl), by repeat (first | (with_reducible first | exact HB.out | apply below_alloc | apply pw_below_drewN | apply below_drew1) | exact HB.out)⟩

end Go.Proofs.YtlcmpmodfkmfnaaDoor.Q
