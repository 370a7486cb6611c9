import Derived.Test.YtjlpjpjodhkpdaaGreatDoorQE
import Derived.Test.YtjlpjpjodhkpdaaGreatDoorClM
import Derived.Test.YtjlpjpjodhkpdaaGreatDoorRefB
set_option maxHeartbeats 8000000
set_option maxRecDepth 100000
namespace Go.Proofs.YtjlpjpjodhkpdaaGreatDoor.Q
open Go.RowKit Go.Proofs.YtjlpjpjodhkpdaaGreatDoorW.PrintWords Go.Proofs.YtjlpjpjodhkpdaaGreatDoorW.PrintLast
set_option linter.unusedVariables false
set_option linter.unusedSimpArgs false
attribute [local go_sem high] eqA53
/-! ### tree_Check: function 34 -/
def tree_Check.f (a0 : ByteArray) (a1 : Int) (a2 : Int) (a3 : ByteArray) (l4 : List ByteArray) : Option (Int) := (tree_Climb.f a1 a2 a3 l4).bind fun bt113 => (if bt113.2 = 0 then (if 0 ≤ (wrap64 ((bt113.1.length : Int) - 1)) then (if (wrap64 ((bt113.1.length : Int) - 1)) < (bt113.1.length : Int) then ((blake_Sum.f (rdOf ByteArray.empty bt113.1 (wrap64 ((bt113.1.length : Int) - 1)))).bind fun t118 => (if t118.toList = a0.toList then (some 0) else (some 13))) else (none)) else (none)) else (some bt113.2))
theorem tree_Check.calls (a0 : ByteArray) (a1 : Int) (a2 : Int) (a3 : ByteArray) (A4 : Option Addr) (c4 : Nat) (l4 : List ByteArray) (r : Int) (w : World) (hT : Tabs w) (hr4 : Kd.C Kd.string w A4 l4.length l4) (hc4 : l4.length ≤ c4) (h : tree_Check.f a0 a1 a2 a3 l4 = some r) :
 Calls Tryz.prog 34 #[.string a0, .int .i64 a1, .int .i64 a2, .string a3, .slice A4 l4.length c4] w fun e w' => e = .returned (.int .i64 r) ∧ Below w.heap.size w w' := by
 have HR4 := Aside0.mk hr4
 have HC4 := Aside0.mk hc4
 clear hr4 hc4
 have HB := Aside0.mk (Below.refl w.heap.size w)
 have H : ((tree_Climb.f a1 a2 a3 l4).bind fun bt113 => (if bt113.2 = 0 then (if 0 ≤ (wrap64 ((bt113.1.length : Int) - 1)) then (if (wrap64 ((bt113.1.length : Int) - 1)) < (bt113.1.length : Int) then ((blake_Sum.f (rdOf ByteArray.empty bt113.1 (wrap64 ((bt113.1.length : Int) - 1)))).bind fun t118 => (if t118.toList = a0.toList then (some 0) else (some 13))) else (none)) else (none)) else (some bt113.2))) = some r := h
 clear h
 replace H := Option.bind_eq_some_iff.mp H
 obtain ⟨⟨t113, t114⟩, A60, H⟩ := H
 try dsimp only [-dreduceIte] at H
 have A6 := Aside0.mk A60
 clear A60
 by_cases c7 : t114 = 0
 · rw [if_pos c7] at H
   have c7b0 : (t114 == 0) = true := beq_iff_eq.mpr c7
   have c7b1 : (t114 != 0) = false := bne_eq_false_iff_eq.mpr c7
   clear c7
   obtain ⟨ji8, hji8⟩ : ∃ j_ : Int, (wrap64 ((t113.length : Int) - 1)) = j_ := ⟨_, rfl⟩
   replace H : (if 0 ≤ (ji8) then (if (ji8) < (t113.length : Int) then ((blake_Sum.f (rdOf ByteArray.empty t113 (ji8))).bind fun t118 => (if t118.toList = a0.toList then (some 0) else (some 13))) else (none)) else (none)) = some r := by first | (rw [hji8] at H; exact H) | (simp only [hji8] at H ⊢; exact H)
   (try rw [hji8] at A6)
   have hji8w : (IntKind.i64.wrap ((t113.length : Int) - 1)) = ji8 := (i64_w _).trans hji8
   by_cases c9 : 0 ≤ (ji8)
   · rw [if_pos c9] at H
     have c9b0 : decide (0 ≤ (ji8)) = true := decide_eq_true c9
     clear c9
     by_cases c10 : (ji8) < (t113.length : Int)
     · rw [if_pos c10] at H
       have c10b0 : decide ((ji8) < (t113.length : Int)) = true := decide_eq_true c10
       clear c10
       replace H := Option.bind_eq_some_iff.mp H
       obtain ⟨t118, A110, H⟩ := H
       try dsimp only [-dreduceIte] at H
       have A11 := Aside0.mk A110
       clear A110
       by_cases c12 : t118.toList = a0.toList
       · rw [if_pos c12] at H
         have c12b0 : (t118.toList == a0.toList) = true := beq_iff_eq.mpr c12
         have c12b1 : (t118.toList != a0.toList) = false := bne_eq_false_iff_eq.mpr c12
         clear c12
         obtain rfl := Option.some.inj H
         go_enter Tryz.func34, Tryz.ntmps34
         go_wp2_with (first | ((with_reducible refine look_callee (f := 75) rfl ?_); refine goesL_ (some 18) rfl rfl Tryz.func75 (by kernel_rfl) rfl #[.int .i64 a1, .int .i64 a2, .string a3, .slice A4 l4.length c4] rfl (by (try simp only [List.map_toArray, List.map_cons, List.map_nil]); first | done | rfl | (simp only [List.length_drop, List.length_take]; rfl)) ?_; (with_reducible refine (tree_Climb.calls a1 a2 a3 _ _ l4 t113 t114 _ ?side1 ?side2 ?side3 A6.out).mono ?_); (case side1 => exact hT.below (by repeat (first | (with_reducible first | exact HB.out | apply below_alloc | apply pw_below_drewN | apply below_drew1) | exact HB.out)) hT.size); (case side2 => repeat (first | exact HR4.out | (with_reducible refine Kd.C_alloc ?_ _) | (with_reducible refine Kd.C_drewN ?_ _) | (with_reducible refine Kd.C_drew ?_))); (case side3 => exact HC4.out); rintro e w13 ⟨v115, rfl, ho0, hb⟩; refine ⟨_, rfl, ?_⟩; have n0_ := Aside0.mk (Kd.R_lower ho0 (below_size (by repeat (first | (with_reducible first | exact HB.out | apply below_alloc | apply pw_below_drewN | apply below_drew1) | exact HB.out)))); have n1_ := Aside0.mk (below_step (by repeat (first | (with_reducible first | exact HB.out | apply below_alloc | apply pw_below_drewN | apply below_drew1) | exact HB.out)) hb); clear HB; have HO116 := n0_; have HB := n1_; clear n0_ n1_; (try clear hb); (try clear hb2); (try clear hk); (try clear hi); (try clear ho0); obtain ⟨Ao14, co14, eo14⟩ := Kd.R_slice HO116.out; subst eo14; have p117 : 0 ≤ ((ji8) : Int) := of_decide_eq_true (by first | (with_reducible assumption) | assumption); have q117 : (ji8) < (t113.length : Int) := of_decide_eq_true (by first | (with_reducible assumption) | assumption); obtain ⟨ad117, e117, hx117_0⟩ := Kd.at_string (Kd.R_reads' HO116.out).2.2 (ji8) p117 q117; cases e117; replace p117 := eq_true p117; replace q117 := eq_true q117) | ((with_reducible refine look_callee (f := 76) rfl ?_); refine goesL_ (some 32) rfl rfl Tryz.func76 (by kernel_rfl) rfl #[.string (rdOf ByteArray.empty t113 (ji8))] rfl (by (try simp only [List.map_toArray, List.map_cons, List.map_nil]); first | done | (simp only [hji8]; rfl) | rfl | (simp only [List.length_drop, List.length_take]; rfl)) ?_; (with_reducible refine (blake_Sum.calls (rdOf ByteArray.empty t113 (ji8)) t118 _ ?side1 A11.out).mono ?_); (case side1 => exact hT.below (by repeat (first | (with_reducible first | exact HB.out | apply below_alloc | apply pw_below_drewN | apply below_drew1) | exact HB.out)) hT.size); rintro e w15 ⟨rfl, hb⟩; refine ⟨_, rfl, ?_⟩; have n0_ := Aside0.mk (Kd.R_below (by (with_reducible repeat (first | apply Kd.R_alloc | apply Kd.R_drewN | apply Kd.R_drew)); exact HO116.out) hb); have n1_ := Aside0.mk (below_step (by repeat (first | (with_reducible first | exact HB.out | apply below_alloc | apply pw_below_drewN | apply below_drew1) | exact HB.out)) hb); clear HO116; clear HB; have HO116 := n0_; have HB := n1_; clear n0_ n1_; (try clear hb); (try clear hb2); (try clear hk); (try clear hi)))
         go_ret
         exact ⟨by first | rfl | (simp [errW_none, errW_some] <;> rfl) | (simp only [← hji8]; first | rfl | (simp [errW_none, errW_some] <;> rfl)) | (simp [*, errW_none, errW_some] <;> rfl) | (simp [bne]; done) | (simp [*, bne]; done), by repeat (first | (with_reducible first | exact HB.out | apply below_alloc | apply pw_below_drewN | apply below_drew1) | exact HB.out)⟩
       · rw [if_neg c12] at H
         have c12b0 : (t118.toList == a0.toList) = false := beq_eq_false_iff_ne.mpr c12
         have c12b1 : (t118.toList != a0.toList) = true := bne_iff_ne.mpr c12
         obtain rfl := Option.some.inj H
         go_enter Tryz.func34, Tryz.ntmps34
         go_wp2_with (first | ((with_reducible refine look_callee (f := 75) rfl ?_); refine goesL_ (some 18) rfl rfl Tryz.func75 (by kernel_rfl) rfl #[.int .i64 a1, .int .i64 a2, .string a3, .slice A4 l4.length c4] rfl (by (try simp only [List.map_toArray, List.map_cons, List.map_nil]); first | done | rfl | (simp only [List.length_drop, List.length_take]; rfl)) ?_; (with_reducible refine (tree_Climb.calls a1 a2 a3 _ _ l4 t113 t114 _ ?side1 ?side2 ?side3 A6.out).mono ?_); (case side1 => exact hT.below (by repeat (first | (with_reducible first | exact HB.out | apply below_alloc | apply pw_below_drewN | apply below_drew1) | exact HB.out)) hT.size); (case side2 => repeat (first | exact HR4.out | (with_reducible refine Kd.C_alloc ?_ _) | (with_reducible refine Kd.C_drewN ?_ _) | (with_reducible refine Kd.C_drew ?_))); (case side3 => exact HC4.out); rintro e w16 ⟨v115, rfl, ho0, hb⟩; refine ⟨_, rfl, ?_⟩; have n0_ := Aside0.mk (Kd.R_lower ho0 (below_size (by repeat (first | (with_reducible first | exact HB.out | apply below_alloc | apply pw_below_drewN | apply below_drew1) | exact HB.out)))); have n1_ := Aside0.mk (below_step (by repeat (first | (with_reducible first | exact HB.out | apply below_alloc | apply pw_below_drewN | apply below_drew1) | exact HB.out)) hb); clear HB; have HO116 := n0_; have HB := n1_; clear n0_ n1_; (try clear hb); (try clear hb2); (try clear hk); (try clear hi); (try clear ho0); obtain ⟨Ao17, co17, eo17⟩ := Kd.R_slice HO116.out; subst eo17; have p117 : 0 ≤ ((ji8) : Int) := of_decide_eq_true (by first | (with_reducible assumption) | assumption); have q117 : (ji8) < (t113.length : Int) := of_decide_eq_true (by first | (with_reducible assumption) | assumption); obtain ⟨ad117, e117, hx117_0⟩ := Kd.at_string (Kd.R_reads' HO116.out).2.2 (ji8) p117 q117; cases e117; replace p117 := eq_true p117; replace q117 := eq_true q117) | ((with_reducible refine look_callee (f := 76) rfl ?_); refine goesL_ (some 32) rfl rfl Tryz.func76 (by kernel_rfl) rfl #[.string (rdOf ByteArray.empty t113 (ji8))] rfl (by (try simp only [List.map_toArray, List.map_cons, List.map_nil]); first | done | (simp only [hji8]; rfl) | rfl | (simp only [List.length_drop, List.length_take]; rfl)) ?_; (with_reducible refine (blake_Sum.calls (rdOf ByteArray.empty t113 (ji8)) t118 _ ?side1 A11.out).mono ?_); (case side1 => exact hT.below (by repeat (first | (with_reducible first | exact HB.out | apply below_alloc | apply pw_below_drewN | apply below_drew1) | exact HB.out)) hT.size); rintro e w18 ⟨rfl, hb⟩; refine ⟨_, rfl, ?_⟩; have n0_ := Aside0.mk (Kd.R_below (by (with_reducible repeat (first | apply Kd.R_alloc | apply Kd.R_drewN | apply Kd.R_drew)); exact HO116.out) hb); have n1_ := Aside0.mk (below_step (by repeat (first | (with_reducible first | exact HB.out | apply below_alloc | apply pw_below_drewN | apply below_drew1) | exact HB.out)) hb); clear HO116; clear HB; have HO116 := n0_; have HB := n1_; clear n0_ n1_; (try clear hb); (try clear hb2); (try clear hk); (try clear hi)))
         go_ret
         exact ⟨by first | rfl | (simp [errW_none, errW_some] <;> rfl) | (simp only [← hji8]; first | rfl | (simp [errW_none, errW_some] <;> rfl)) | (simp [*, errW_none, errW_some] <;> rfl) | (simp [bne]; done) | (simp [*, bne]; done), by repeat (first | (with_reducible first | exact HB.out | apply below_alloc | apply pw_below_drewN | apply below_drew1) | exact HB.out)⟩
     · rw [if_neg c10] at H
       exact absurd H (by simp)
   · rw [if_neg c9] at H
     exact absurd H (by simp)
 · rw [if_neg c7] at H
   have c7b0 : (t114 == 0) = false := beq_eq_false_iff_ne.mpr c7
   have c7b1 : (t114 != 0) = true := bne_iff_ne.mpr c7
   obtain rfl := Option.some.inj H
   go_enter Tryz.func34, Tryz.ntmps34
   go_wp2_with (first | ((with_reducible refine look_callee (f := 75) rfl ?_); refine goesL_ (some 18) rfl rfl Tryz.func75 (by kernel_rfl) rfl #[.int .i64 a1, .int .i64 a2, .string a3, .slice A4 l4.length c4] rfl (by (try simp only [List.map_toArray, List.map_cons, List.map_nil]); first | done | rfl | (simp only [List.length_drop, List.length_take]; rfl)) ?_; (with_reducible refine (tree_Climb.calls a1 a2 a3 _ _ l4 t113 t114 _ ?side1 ?side2 ?side3 A6.out).mono ?_); (case side1 => exact hT.below (by repeat (first | (with_reducible first | exact HB.out | apply below_alloc | apply pw_below_drewN | apply below_drew1) | exact HB.out)) hT.size); (case side2 => repeat (first | exact HR4.out | (with_reducible refine Kd.C_alloc ?_ _) | (with_reducible refine Kd.C_drewN ?_ _) | (with_reducible refine Kd.C_drew ?_))); (case side3 => exact HC4.out); rintro e w19 ⟨v115, rfl, ho0, hb⟩; refine ⟨_, rfl, ?_⟩; have n0_ := Aside0.mk (Kd.R_lower ho0 (below_size (by repeat (first | (with_reducible first | exact HB.out | apply below_alloc | apply pw_below_drewN | apply below_drew1) | exact HB.out)))); have n1_ := Aside0.mk (below_step (by repeat (first | (with_reducible first | exact HB.out | apply below_alloc | apply pw_below_drewN | apply below_drew1) | exact HB.out)) hb); clear HB; have HO116 := n0_; have HB := n1_; clear n0_ n1_; (try clear hb); (try clear hb2); (try clear hk); (try clear hi); (try clear ho0)))
   go_ret
   exact ⟨by first | rfl | (simp [errW_none, errW_some] <;> rfl) | (simp [*, errW_none, errW_some] <;> rfl) | (simp [bne]; done) | (simp [*, bne]; done), by repeat (first | (with_reducible first | exact HB.out | apply below_alloc | apply pw_below_drewN | apply below_drew1) | exact HB.out)⟩
end Go.Proofs.YtjlpjpjodhkpdaaGreatDoor.Q
