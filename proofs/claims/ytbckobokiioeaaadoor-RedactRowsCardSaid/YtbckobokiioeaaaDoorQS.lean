-- Written by pp.py and splitq.py, programs of the session, with the kit's print. Not trusted: Lean checks it.
import Derived.Test.YtbckobokiioeaaaDoorQS4
namespace Go.Proofs.YtbckobokiioeaaaDoor.Q
open Go.RowKit Go.Proofs.YtbckobokiioeaaaDoorW.PrintWords Go.Proofs.YtbckobokiioeaaaDoorW.PrintLast
set_option linter.unusedVariables false
set_option linter.unusedSimpArgs false

attribute [local go_sem high] eqA26

/-! ### cartoucheref07_Twins: function 24 -/
mutual
def cartoucheref07_Twins.l0 : Nat → ByteArray → List (S26) → List ByteArray → List ByteArray → Int → Option (ByteArray × ByteArray × Bool)
  | 0, _, _, _, _, _ => none
  | k + 1, x0, x1, x7, x8, x9 => if x9 < (x1.length : Int) then (if 0 ≤ x9 then ((cartoucheref07_One.f k x0 ((rd_T26 x1 x9).f0) ((rd_T26 x1 x9).f1) ((rd_T26 x1 x9).f2) ((rd_T26 x1 x9).f3)).bind fun bt199 => (if bt199.2.2.2.2 = 0 then (if ((rd_T26 x1 x9).f0) = 2 then (cartoucheref07_Twins.j1 k x0 x1 x7 x8 x9 (⟨#[]⟩ : ByteArray) (⟨#[]⟩ : ByteArray) true) else (cartoucheref07_Twins.j1 k x0 x1 x7 x8 x9 (⟨#[]⟩ : ByteArray) (⟨#[]⟩ : ByteArray) (((rd_T26 x1 x9).f0) == 3))) else (some ((⟨#[]⟩ : ByteArray), (⟨#[]⟩ : ByteArray), false)))) else (none)) else ((cartoucheref07_twins.f k x0 x7).bind fun bt228 => (if bt228.2.2 = true then (some (bt228.1, bt228.2.1, true)) else ((cartoucheref07_twins.f k x0 x8).bind fun bt231 => (some (bt231.1, bt231.2.1, bt231.2.2)))))
def cartoucheref07_Twins.j1 : Nat → ByteArray → List (S26) → List ByteArray → List ByteArray → Int → ByteArray → ByteArray → Bool → Option (ByteArray × ByteArray × Bool)
  | 0, _, _, _, _, _, _, _, _ => none
  | k + 1, x0, x1, x7, x8, x9, x12, x13, x47 => if x47 = true then (if 0 ≤ x9 then (if x9 < (x1.length : Int) then (if 1 + ((rd_T26 x1 x9).f2).size ≤ 9223372036854775807 then (if ((rd_T26 x1 x9).f3).toList = ([] : List UInt8) then (if x7.length < 8796093022208 then (if x8.length < 8796093022208 then (cartoucheref07_Twins.l0 k x0 x1 (x7 ++ [(⟨#[5]⟩ : ByteArray) ++ ((rd_T26 x1 x9).f2)]) (x8 ++ [x13]) (wrap64 (x9 + 1))) else (none)) else (none)) else (if 1 + ((rd_T26 x1 x9).f3).size ≤ 9223372036854775807 then (if x7.length < 8796093022208 then (if x8.length < 8796093022208 then (cartoucheref07_Twins.l0 k x0 x1 (x7 ++ [(⟨#[5]⟩ : ByteArray) ++ ((rd_T26 x1 x9).f2)]) (x8 ++ [(⟨#[6]⟩ : ByteArray) ++ ((rd_T26 x1 x9).f3)]) (wrap64 (x9 + 1))) else (none)) else (none)) else (none))) else (none)) else (none)) else (none)) else (if x7.length < 8796093022208 then (if x8.length < 8796093022208 then (cartoucheref07_Twins.l0 k x0 x1 (x7 ++ [x12]) (x8 ++ [x13]) (wrap64 (x9 + 1))) else (none)) else (none))
end
def cartoucheref07_Twins.f (k : Nat) (a0 : ByteArray) (l1 : List (S26)) : Option (ByteArray × ByteArray × Bool) := cartoucheref07_Twins.l0 k a0 l1 ([] : List ByteArray) ([] : List ByteArray) 0
theorem cartoucheref07_Twins.mono_l : ∀ k, (∀ y0 y1 y2 y3 y4, LeO (cartoucheref07_Twins.l0 k y0 y1 y2 y3 y4) (cartoucheref07_Twins.l0 (k + 1) y0 y1 y2 y3 y4)) ∧ (∀ y0 y1 y2 y3 y4 y5 y6 y7, LeO (cartoucheref07_Twins.j1 k y0 y1 y2 y3 y4 y5 y6 y7) (cartoucheref07_Twins.j1 (k + 1) y0 y1 y2 y3 y4 y5 y6 y7))
  | 0 => ⟨fun _ _ _ _ _ r h => by simp [cartoucheref07_Twins.l0] at h, fun _ _ _ _ _ _ _ _ r h => by simp [cartoucheref07_Twins.j1] at h⟩
  | k + 1 => by
    obtain ⟨ih0, ih1⟩ := cartoucheref07_Twins.mono_l k
    refine ⟨?_, ?_⟩
    · intro y0 y1 y2 y3 y4
      unfold cartoucheref07_Twins.l0
      repeat' first
      | (with_reducible exact ih0 _ _ _ _ _)
      | (with_reducible exact ih1 _ _ _ _ _ _ _ _)
      | (with_reducible exact cartoucheref07_One.mono _ _ _ _ _ _)
      | (with_reducible exact cartoucheref07_twins.mono _ _ _)
      | (with_reducible exact LeO.refl _)
      | (with_reducible exact LeO.none _)
      | (with_reducible refine LeO.ite ?_ ?_)
      | (with_reducible refine LeO.bind ?_ (fun _ => ?_))
      | exact ih0 _ _ _ _ _
      | exact ih1 _ _ _ _ _ _ _ _
      | exact cartoucheref07_One.mono _ _ _ _ _ _
      | exact cartoucheref07_twins.mono _ _ _
      | exact LeO.none _
      | refine LeO.ite ?_ ?_
      | refine LeO.bind ?_ (fun _ => ?_)
    · intro y0 y1 y2 y3 y4 y5 y6 y7
      unfold cartoucheref07_Twins.j1
      repeat' first
      | (with_reducible exact ih0 _ _ _ _ _)
      | (with_reducible exact ih1 _ _ _ _ _ _ _ _)
      | (with_reducible exact cartoucheref07_One.mono _ _ _ _ _ _)
      | (with_reducible exact cartoucheref07_twins.mono _ _ _)
      | (with_reducible exact LeO.refl _)
      | (with_reducible exact LeO.none _)
      | (with_reducible refine LeO.ite ?_ ?_)
      | (with_reducible refine LeO.bind ?_ (fun _ => ?_))
      | exact ih0 _ _ _ _ _
      | exact ih1 _ _ _ _ _ _ _ _
      | exact cartoucheref07_One.mono _ _ _ _ _ _
      | exact cartoucheref07_twins.mono _ _ _
      | exact LeO.none _
      | refine LeO.ite ?_ ?_
      | refine LeO.bind ?_ (fun _ => ?_)
theorem cartoucheref07_Twins.mono : ∀ a0 a1 k, LeO (cartoucheref07_Twins.f k a0 a1) (cartoucheref07_Twins.f (k + 1) a0 a1) := by
  intro a0 a1 k
  obtain ⟨ih0, ih1⟩ := cartoucheref07_Twins.mono_l k
  unfold cartoucheref07_Twins.f
  repeat' first
      | (with_reducible exact ih0 _ _ _ _ _)
      | (with_reducible exact ih1 _ _ _ _ _ _ _ _)
      | (with_reducible exact cartoucheref07_One.mono _ _ _ _ _ _)
      | (with_reducible exact cartoucheref07_twins.mono _ _ _)
      | (with_reducible exact LeO.refl _)
      | (with_reducible exact LeO.none _)
      | (with_reducible refine LeO.ite ?_ ?_)
      | (with_reducible refine LeO.bind ?_ (fun _ => ?_))
      | exact ih0 _ _ _ _ _
      | exact ih1 _ _ _ _ _ _ _ _
      | exact cartoucheref07_One.mono _ _ _ _ _ _
      | exact cartoucheref07_twins.mono _ _ _
      | exact LeO.none _
      | refine LeO.ite ?_ ?_
      | refine LeO.bind ?_ (fun _ => ?_)
set_option maxHeartbeats 8000000 in
set_option maxRecDepth 100000 in
theorem cartoucheref07_Twins.calls (k : Nat) (a0 : ByteArray) (A1 : Option Addr) (c1 : Nat) (l1 : List (S26)) (r1 : ByteArray) (r2 : ByteArray) (r3 : Bool) (w : World) (hr1 : Kd.C k26 w A1 l1.length l1) (hc1 : l1.length ≤ c1) (h : cartoucheref07_Twins.f k a0 l1 = some (r1, r2, r3)) :
    Calls Tryd.prog 24 #[.string a0, .slice A1 l1.length c1] w fun e w' => e = .returned (.tuple #[.string r1, .string r2, .bool r3]) ∧ Below w.heap.size w w' := by
  have hu26 := Tryd.underlying26
  have HR1 := Aside0.mk hr1
  have HC1 := Aside0.mk hc1
  clear hr1 hc1
  have HB := Aside0.mk (Below.refl w.heap.size w)
  have H : (cartoucheref07_Twins.l0 k a0 l1 ([] : List ByteArray) ([] : List ByteArray) 0) = some (r1, r2, r3) := h
  clear h
  have H' := Aside0.mk H
  clear H
  go_enter Tryd.func24, Tryd.ntmps24
  go_wp2
  go_loopg [7, 8, 9] k (fun kq v7 v8 v9 w' => ∃ (x7_1 : List ByteArray) (x8_1 : List ByteArray) (x9_1 : Int), v9 = .int .i64 x9_1 ∧ Aside0 (cartoucheref07_Twins.l0 kq a0 l1 x7_1 x8_1 x9_1 = some (r1, r2, r3)) ∧ Aside0 (kq ≤ k) ∧ Aside0 (Kd.R Kd.string 9 w' w.heap.size (fun k_ => some k_ ≠ (v8 : Value).ownBlock) v7 x7_1) ∧ Aside0 (Kd.R Kd.string 9 w' w.heap.size (fun k_ => some k_ ≠ (v7 : Value).ownBlock) v8 x8_1) ∧ Aside0 (Below w.heap.size w w'))
  case atStart => exact ⟨(([] : List ByteArray)), (([] : List ByteArray)), (0), (by first | rfl | (simp; done) | (simp [*]; done)), H', ⟨Nat.le_refl _⟩, ⟨by first | exact Kd.R_nil _ _ _ _ _ | exact Kd.N_nil _ _ _ _ _ | exact Kd.V_nil _ _ _ _ _ | exact Kd.Q_nil _ _ _ _ _ | exact Kd.S_nil _ _ _ _ _⟩, ⟨by first | exact Kd.R_nil _ _ _ _ _ | exact Kd.N_nil _ _ _ _ _ | exact Kd.V_nil _ _ _ _ _ | exact Kd.Q_nil _ _ _ _ _ | exact Kd.S_nil _ _ _ _ _⟩, ⟨by repeat (first | (with_reducible first | exact HB.out | apply below_alloc | apply pw_below_drewN | apply below_drew1) | exact HB.out)⟩⟩
  case round =>
    clear H'
    try clear c1
    try clear c2
    try clear p2
    obtain ⟨x7_1, x8_1, x9_1, rfl, HA, HK1, HO_7, HO_8, HB⟩ := hrel
    cases gk with
    | zero => exact absurd HA.out (by simp [cartoucheref07_Twins.l0])
    | succ k1 =>
      have H := HA.out
      clear HA
      simp only [cartoucheref07_Twins.l0] at H
      by_cases c3 : x9_1 < (l1.length : Int)
      · rw [if_pos c3] at H
        have c3b0 : decide (x9_1 < (l1.length : Int)) = true := decide_eq_true c3
        clear c3
        by_cases c4 : 0 ≤ x9_1
        · rw [if_pos c4] at H
          have c4b0 : decide (0 ≤ x9_1) = true := decide_eq_true c4
          clear c4
          replace H := Option.bind_eq_some_iff.mp H
          obtain ⟨⟨t199, t200, t201, t202, t203⟩, A50, H⟩ := H
          replace H : (if t203 = 0 then (if ((rd_T26 l1 x9_1).f0) = 2 then (cartoucheref07_Twins.j1 k1 a0 l1 x7_1 x8_1 x9_1 (⟨#[]⟩ : ByteArray) (⟨#[]⟩ : ByteArray) true) else (cartoucheref07_Twins.j1 k1 a0 l1 x7_1 x8_1 x9_1 (⟨#[]⟩ : ByteArray) (⟨#[]⟩ : ByteArray) (((rd_T26 l1 x9_1).f0) == 3))) else (some ((⟨#[]⟩ : ByteArray), (⟨#[]⟩ : ByteArray), false))) = some (r1, r2, r3) := H
          have A5 := Aside0.mk A50
          clear A50
          by_cases c6 : t203 = 0
          · rw [if_pos c6] at H
            have c6b0 : (t203 == 0) = true := beq_iff_eq.mpr c6
            have c6b1 : (t203 != 0) = false := bne_eq_false_iff_eq.mpr c6
            clear c6
            have HC7 := Aside0.mk H
            clear H
            have p198 : 0 ≤ (x9_1 : Int) := of_decide_eq_true (by first | (with_reducible assumption) | assumption)
            have q198 : x9_1 < (l1.length : Int) := of_decide_eq_true (by first | (with_reducible assumption) | assumption)
            obtain ⟨ad198, e198, hx198_0, hx198_1, hx198_2, hx198_3⟩ := at_T26 HR1.out x9_1 p198 q198
            cases e198
            replace hx198_0 := (HB.out.cell (World.block_lt_of_cell? w _ hx198_0)).trans hx198_0
            replace hx198_1 := (HB.out.cell (World.block_lt_of_cell? w _ hx198_1)).trans hx198_1
            replace hx198_2 := (HB.out.cell (World.block_lt_of_cell? w _ hx198_2)).trans hx198_2
            replace hx198_3 := (HB.out.cell (World.block_lt_of_cell? w _ hx198_3)).trans hx198_3
            replace p198 := eq_true p198
            replace q198 := eq_true q198
            go_upto_region 11 with (first | ((with_reducible refine look_callee (f := 18) rfl ?_); refine goesL_ (some 29) rfl rfl Tryd.func18 (by kernel_rfl) rfl #[.string a0, .agg #[.int .i64 ((rd_T26 l1 x9_1).f0), .int .i64 ((rd_T26 l1 x9_1).f1), .string ((rd_T26 l1 x9_1).f2), .string ((rd_T26 l1 x9_1).f3)]] rfl (by (try simp only [List.map_toArray, List.map_cons, List.map_nil]); first | done | rfl | (simp only [List.length_drop, List.length_take]; rfl)) ?_; (with_reducible refine (cartoucheref07_One.calls k1 a0 ((rd_T26 l1 x9_1).f0) ((rd_T26 l1 x9_1).f1) ((rd_T26 l1 x9_1).f2) ((rd_T26 l1 x9_1).f3) t199 t200 t201 t202 t203 _ A5.out).mono ?_); rintro e w8 ⟨rfl, hb⟩; refine ⟨_, rfl, ?_⟩; have n0_ := Aside0.mk (Kd.R_below (by (with_reducible repeat (first | apply Kd.R_alloc | apply Kd.R_drewN | apply Kd.R_drew)); exact HO_7.out) hb); have n1_ := Aside0.mk (Kd.R_below (by (with_reducible repeat (first | apply Kd.R_alloc | apply Kd.R_drewN | apply Kd.R_drew)); exact HO_8.out) hb); have n2_ := Aside0.mk (below_step (by repeat (first | (with_reducible first | exact HB.out | apply below_alloc | apply pw_below_drewN | apply below_drew1) | exact HB.out)) hb); clear HO_7; clear HO_8; clear HB; have HO_7 := n0_; have HO_8 := n1_; have HB := n2_; clear n0_ n1_ n2_; (try clear hb); (try clear hb2); (try clear hk); (try clear hi)) | ((with_reducible refine gate_dst (N := 10) rfl ?_); refine box_event ?hg (N := 10) ?hd (cs := #[.int .i64 0, .int .i64 0, .string (⟨#[]⟩ : ByteArray), .string (⟨#[]⟩ : ByteArray)]) (t := 26) ?hr ?_; (case hd => rfl); (case hg => rfl); (case hr => first | (go_simp; done) | (go_simp; rfl)); intro gb204 hg w9 hbox hb; have n0_ := Aside0.mk (Kd.R_below (by (with_reducible repeat (first | apply Kd.R_alloc | apply Kd.R_drewN | apply Kd.R_drew)); exact HO_7.out) hb); have n1_ := Aside0.mk (Kd.R_below (by (with_reducible repeat (first | apply Kd.R_alloc | apply Kd.R_drewN | apply Kd.R_drew)); exact HO_8.out) hb); have n2_ := Aside0.mk (below_step (by repeat (first | (with_reducible first | exact HB.out | apply below_alloc | apply pw_below_drewN | apply below_drew1) | exact HB.out)) hb); have n3_ := Aside0.mk (hbox); have n4_ := Aside0.mk ((by rw [hg]; exact (below_size (by repeat (first | (with_reducible first | exact HB.out | apply below_alloc | apply pw_below_drewN | apply below_drew1) | exact HB.out))) : w.heap.size ≤ gb204)); have n5_ := Aside0.mk ((by rw [hg]; exact (below_size (by repeat (first | (with_reducible first | exact HB.out | apply below_alloc | apply pw_below_drewN | apply below_drew1) | exact HB.out))) : w.heap.size ≤ gb204)); clear HO_7; clear HO_8; clear HB; have HO_7 := n0_; have HO_8 := n1_; have HB := n2_; have BK204 := n3_; have GW204 := n4_; have GE204 := n5_; clear n0_ n1_ n2_ n3_ n4_ n5_; clear hb hbox hg; have hcz10_0 : w9.cell? ⟨gb204, 0, none⟩ = some (.int .i64 0) := (blk_cell BK204.out 0).trans rfl; have hcz10_1 : w9.cell? ⟨gb204, 1, none⟩ = some (.int .i64 0) := (blk_cell BK204.out 1).trans rfl; have hcz10_2 : w9.cell? ⟨gb204, 2, none⟩ = some (.string (⟨#[]⟩ : ByteArray)) := (blk_cell BK204.out 2).trans rfl; have hcz10_3 : w9.cell? ⟨gb204, 3, none⟩ = some (.string (⟨#[]⟩ : ByteArray)) := (blk_cell BK204.out 3).trans rfl; have hfz10_0 := blk_frozen BK204.out 0; have hfz10_1 := blk_frozen BK204.out 1; have hfz10_2 := blk_frozen BK204.out 2; have hfz10_3 := blk_frozen BK204.out 3))
            (try simp only [Act.put, List.setIfInBounds_toArray, List.set_cons_zero, List.set_cons_succ])
            go_cut [47] (fun v47 wc => ∃ (kq : Nat) (x47_6 : Bool), v47 = .bool x47_6 ∧ Aside0 (cartoucheref07_Twins.j1 kq a0 l1 x7_1 x8_1 x9_1 (⟨#[]⟩ : ByteArray) (⟨#[]⟩ : ByteArray) x47_6 = some (r1, r2, r3)) ∧ Aside0 (kq ≤ k1) ∧ Aside0 (Kd.R Kd.string 9 wc w.heap.size (fun k_ => some k_ ≠ (u8 : Value).ownBlock) u7 x7_1) ∧ Aside0 (Kd.R Kd.string 9 wc w.heap.size (fun k_ => some k_ ≠ (u7 : Value).ownBlock) u8 x8_1) ∧ Aside0 (wc.heap[gb204]? = some (.cells #[.int .i64 t199, .int .i64 t200, .string t201, .string t202] 26 (0, 0))) ∧ Aside0 (Below w.heap.size w wc))
            case first =>
              have H := HC7.out
              clear HC7
              by_cases c11 : ((rd_T26 l1 x9_1).f0) = 2
              · rw [if_pos c11] at H
                have c11b0 : (((rd_T26 l1 x9_1).f0) == 2) = true := beq_iff_eq.mpr c11
                have c11b1 : (((rd_T26 l1 x9_1).f0) != 2) = false := bne_eq_false_iff_eq.mpr c11
                clear c11
                (first | rw [c11b0] | (simp only [i64_w, i32_w]; rw [c11b0]) | skip)
                have H' := Aside0.mk H
                clear H
                have p205 : 0 ≤ (x9_1 : Int) := of_decide_eq_true (by first | (with_reducible assumption) | assumption)
                have q205 : x9_1 < (l1.length : Int) := of_decide_eq_true (by first | (with_reducible assumption) | assumption)
                obtain ⟨ad205, e205, hx205_0, hx205_1, hx205_2, hx205_3⟩ := at_T26 HR1.out x9_1 p205 q205
                obtain rfl : ad198 = ad205 := (by injection e205)
                have hn205_0 : ad198.block ≠ gb204 := Nat.ne_of_lt (Nat.lt_of_lt_of_le (by have := World.block_lt_of_cell? _ _ hx205_0; first | rwa [add_block] at this | exact this) GW204.out)
                have hn205_1 : ad198.block ≠ gb204 := Nat.ne_of_lt (Nat.lt_of_lt_of_le (by have := World.block_lt_of_cell? _ _ hx205_0; first | rwa [add_block] at this | exact this) GW204.out)
                have hn205_2 : ad198.block ≠ gb204 := Nat.ne_of_lt (Nat.lt_of_lt_of_le (by have := World.block_lt_of_cell? _ _ hx205_0; first | rwa [add_block] at this | exact this) GW204.out)
                have hn205_3 : ad198.block ≠ gb204 := Nat.ne_of_lt (Nat.lt_of_lt_of_le (by have := World.block_lt_of_cell? _ _ hx205_0; first | rwa [add_block] at this | exact this) GW204.out)
                replace hx205_0 := (HB.out.cell (World.block_lt_of_cell? w _ hx205_0)).trans hx205_0
                replace hx205_1 := (HB.out.cell (World.block_lt_of_cell? w _ hx205_1)).trans hx205_1
                replace hx205_2 := (HB.out.cell (World.block_lt_of_cell? w _ hx205_2)).trans hx205_2
                replace hx205_3 := (HB.out.cell (World.block_lt_of_cell? w _ hx205_3)).trans hx205_3
                replace hx205_0 := (cell_far (p := ⟨gb204, 0, none⟩) (by first | (rw [add_block]; exact hn205_0) | (show (Addr.add _ _).block ≠ _; rw [add_block]; exact hn205_0) | exact hn205_0) (.int .i64 t199)).trans hx205_0
                replace hx205_1 := (cell_far (p := ⟨gb204, 0, none⟩) (by first | (rw [add_block]; exact hn205_0) | (show (Addr.add _ _).block ≠ _; rw [add_block]; exact hn205_0) | exact hn205_0) (.int .i64 t199)).trans hx205_1
                replace hx205_2 := (cell_far (p := ⟨gb204, 0, none⟩) (by first | (rw [add_block]; exact hn205_0) | (show (Addr.add _ _).block ≠ _; rw [add_block]; exact hn205_0) | exact hn205_0) (.int .i64 t199)).trans hx205_2
                replace hx205_3 := (cell_far (p := ⟨gb204, 0, none⟩) (by first | (rw [add_block]; exact hn205_0) | (show (Addr.add _ _).block ≠ _; rw [add_block]; exact hn205_0) | exact hn205_0) (.int .i64 t199)).trans hx205_3
                replace hx205_0 := (cell_far (p := ⟨gb204, 1, none⟩) (by first | (rw [add_block]; exact hn205_1) | (show (Addr.add _ _).block ≠ _; rw [add_block]; exact hn205_1) | exact hn205_1) (.int .i64 t200)).trans hx205_0
                replace hx205_1 := (cell_far (p := ⟨gb204, 1, none⟩) (by first | (rw [add_block]; exact hn205_1) | (show (Addr.add _ _).block ≠ _; rw [add_block]; exact hn205_1) | exact hn205_1) (.int .i64 t200)).trans hx205_1
                replace hx205_2 := (cell_far (p := ⟨gb204, 1, none⟩) (by first | (rw [add_block]; exact hn205_1) | (show (Addr.add _ _).block ≠ _; rw [add_block]; exact hn205_1) | exact hn205_1) (.int .i64 t200)).trans hx205_2
                replace hx205_3 := (cell_far (p := ⟨gb204, 1, none⟩) (by first | (rw [add_block]; exact hn205_1) | (show (Addr.add _ _).block ≠ _; rw [add_block]; exact hn205_1) | exact hn205_1) (.int .i64 t200)).trans hx205_3
                replace hx205_0 := (cell_far (p := ⟨gb204, 2, none⟩) (by first | (rw [add_block]; exact hn205_2) | (show (Addr.add _ _).block ≠ _; rw [add_block]; exact hn205_2) | exact hn205_2) (.string t201)).trans hx205_0
                replace hx205_1 := (cell_far (p := ⟨gb204, 2, none⟩) (by first | (rw [add_block]; exact hn205_2) | (show (Addr.add _ _).block ≠ _; rw [add_block]; exact hn205_2) | exact hn205_2) (.string t201)).trans hx205_1
                replace hx205_2 := (cell_far (p := ⟨gb204, 2, none⟩) (by first | (rw [add_block]; exact hn205_2) | (show (Addr.add _ _).block ≠ _; rw [add_block]; exact hn205_2) | exact hn205_2) (.string t201)).trans hx205_2
                replace hx205_3 := (cell_far (p := ⟨gb204, 2, none⟩) (by first | (rw [add_block]; exact hn205_2) | (show (Addr.add _ _).block ≠ _; rw [add_block]; exact hn205_2) | exact hn205_2) (.string t201)).trans hx205_3
                replace hx205_0 := (cell_far (p := ⟨gb204, 3, none⟩) (by first | (rw [add_block]; exact hn205_3) | (show (Addr.add _ _).block ≠ _; rw [add_block]; exact hn205_3) | exact hn205_3) (.string t202)).trans hx205_0
                replace hx205_1 := (cell_far (p := ⟨gb204, 3, none⟩) (by first | (rw [add_block]; exact hn205_3) | (show (Addr.add _ _).block ≠ _; rw [add_block]; exact hn205_3) | exact hn205_3) (.string t202)).trans hx205_1
                replace hx205_2 := (cell_far (p := ⟨gb204, 3, none⟩) (by first | (rw [add_block]; exact hn205_3) | (show (Addr.add _ _).block ≠ _; rw [add_block]; exact hn205_3) | exact hn205_3) (.string t202)).trans hx205_2
                replace hx205_3 := (cell_far (p := ⟨gb204, 3, none⟩) (by first | (rw [add_block]; exact hn205_3) | (show (Addr.add _ _).block ≠ _; rw [add_block]; exact hn205_3) | exact hn205_3) (.string t202)).trans hx205_3
                clear hn205_0
                clear hn205_1
                clear hn205_2
                clear hn205_3
                replace p205 := eq_true p205
                replace q205 := eq_true q205
                go_wp2
                go_meet
                case rel => exact ⟨_, (true), (by first | rfl | (simp; done) | (simp [*]; done)), H', ⟨by have := HK1.out; first | omega | exact Nat.le_refl _⟩, ⟨by (with_reducible repeat (first | apply Kd.R_alloc | apply Kd.R_drewN | apply Kd.R_drew)); exact Kd.R_mono (Kd.R_far (p := ⟨gb204, 3, none⟩) (Kd.R_far (p := ⟨gb204, 2, none⟩) (Kd.R_far (p := ⟨gb204, 1, none⟩) (Kd.R_far (p := ⟨gb204, 0, none⟩) (Kd.R_types HO_7.out BK204.out (by decide)) (fun _ hk => hk.2) (.int .i64 t199)) (fun _ hk => hk.2) (.int .i64 t200)) (fun _ hk => hk.2) (.string t201)) (fun _ hk => hk.2) (.string t202)) (fun _ hk => hk.1)⟩, ⟨by (with_reducible repeat (first | apply Kd.R_alloc | apply Kd.R_drewN | apply Kd.R_drew)); exact Kd.R_mono (Kd.R_far (p := ⟨gb204, 3, none⟩) (Kd.R_far (p := ⟨gb204, 2, none⟩) (Kd.R_far (p := ⟨gb204, 1, none⟩) (Kd.R_far (p := ⟨gb204, 0, none⟩) (Kd.R_types HO_8.out BK204.out (by decide)) (fun _ hk => hk.2) (.int .i64 t199)) (fun _ hk => hk.2) (.int .i64 t200)) (fun _ hk => hk.2) (.string t201)) (fun _ hk => hk.2) (.string t202)) (fun _ hk => hk.1)⟩, ⟨by (with_reducible repeat (first | refine blk_drewN ?_ _ | refine blk_drew ?_ | refine blk_alloc ?_ _)); refine blk_put (cs := #[.int .i64 t199, .int .i64 t200, .string t201, .string (⟨#[]⟩ : ByteArray)]) ?_ 3 _ rfl; (with_reducible repeat (first | refine blk_drewN ?_ _ | refine blk_drew ?_ | refine blk_alloc ?_ _)); refine blk_put (cs := #[.int .i64 t199, .int .i64 t200, .string (⟨#[]⟩ : ByteArray), .string (⟨#[]⟩ : ByteArray)]) ?_ 2 _ rfl; (with_reducible repeat (first | refine blk_drewN ?_ _ | refine blk_drew ?_ | refine blk_alloc ?_ _)); refine blk_put (cs := #[.int .i64 t199, .int .i64 0, .string (⟨#[]⟩ : ByteArray), .string (⟨#[]⟩ : ByteArray)]) ?_ 1 _ rfl; (with_reducible repeat (first | refine blk_drewN ?_ _ | refine blk_drew ?_ | refine blk_alloc ?_ _)); refine blk_put (cs := #[.int .i64 0, .int .i64 0, .string (⟨#[]⟩ : ByteArray), .string (⟨#[]⟩ : ByteArray)]) ?_ 0 _ rfl; (with_reducible repeat (first | refine blk_drewN ?_ _ | refine blk_drew ?_ | refine blk_alloc ?_ _)); exact BK204.out⟩, ⟨by repeat (first | (with_reducible first | exact HB.out | apply below_alloc | apply pw_below_drewN | apply below_drew1 | refine below_set ?_ GE204.out) | exact HB.out)⟩⟩
              · rw [if_neg c11] at H
                have c11b0 : (((rd_T26 l1 x9_1).f0) == 2) = false := beq_eq_false_iff_ne.mpr c11
                have c11b1 : (((rd_T26 l1 x9_1).f0) != 2) = true := bne_iff_ne.mpr c11
                (first | rw [c11b0] | (simp only [i64_w, i32_w]; rw [c11b0]) | skip)
                have H' := Aside0.mk H
                clear H
                have p205 : 0 ≤ (x9_1 : Int) := of_decide_eq_true (by first | (with_reducible assumption) | assumption)
                have q205 : x9_1 < (l1.length : Int) := of_decide_eq_true (by first | (with_reducible assumption) | assumption)
                obtain ⟨ad205, e205, hx205_0, hx205_1, hx205_2, hx205_3⟩ := at_T26 HR1.out x9_1 p205 q205
                obtain rfl : ad198 = ad205 := (by injection e205)
                have hn205_0 : ad198.block ≠ gb204 := Nat.ne_of_lt (Nat.lt_of_lt_of_le (by have := World.block_lt_of_cell? _ _ hx205_0; first | rwa [add_block] at this | exact this) GW204.out)
                have hn205_1 : ad198.block ≠ gb204 := Nat.ne_of_lt (Nat.lt_of_lt_of_le (by have := World.block_lt_of_cell? _ _ hx205_0; first | rwa [add_block] at this | exact this) GW204.out)
                have hn205_2 : ad198.block ≠ gb204 := Nat.ne_of_lt (Nat.lt_of_lt_of_le (by have := World.block_lt_of_cell? _ _ hx205_0; first | rwa [add_block] at this | exact this) GW204.out)
                have hn205_3 : ad198.block ≠ gb204 := Nat.ne_of_lt (Nat.lt_of_lt_of_le (by have := World.block_lt_of_cell? _ _ hx205_0; first | rwa [add_block] at this | exact this) GW204.out)
                replace hx205_0 := (HB.out.cell (World.block_lt_of_cell? w _ hx205_0)).trans hx205_0
                replace hx205_1 := (HB.out.cell (World.block_lt_of_cell? w _ hx205_1)).trans hx205_1
                replace hx205_2 := (HB.out.cell (World.block_lt_of_cell? w _ hx205_2)).trans hx205_2
                replace hx205_3 := (HB.out.cell (World.block_lt_of_cell? w _ hx205_3)).trans hx205_3
                replace hx205_0 := (cell_far (p := ⟨gb204, 0, none⟩) (by first | (rw [add_block]; exact hn205_0) | (show (Addr.add _ _).block ≠ _; rw [add_block]; exact hn205_0) | exact hn205_0) (.int .i64 t199)).trans hx205_0
                replace hx205_1 := (cell_far (p := ⟨gb204, 0, none⟩) (by first | (rw [add_block]; exact hn205_0) | (show (Addr.add _ _).block ≠ _; rw [add_block]; exact hn205_0) | exact hn205_0) (.int .i64 t199)).trans hx205_1
                replace hx205_2 := (cell_far (p := ⟨gb204, 0, none⟩) (by first | (rw [add_block]; exact hn205_0) | (show (Addr.add _ _).block ≠ _; rw [add_block]; exact hn205_0) | exact hn205_0) (.int .i64 t199)).trans hx205_2
                replace hx205_3 := (cell_far (p := ⟨gb204, 0, none⟩) (by first | (rw [add_block]; exact hn205_0) | (show (Addr.add _ _).block ≠ _; rw [add_block]; exact hn205_0) | exact hn205_0) (.int .i64 t199)).trans hx205_3
                replace hx205_0 := (cell_far (p := ⟨gb204, 1, none⟩) (by first | (rw [add_block]; exact hn205_1) | (show (Addr.add _ _).block ≠ _; rw [add_block]; exact hn205_1) | exact hn205_1) (.int .i64 t200)).trans hx205_0
                replace hx205_1 := (cell_far (p := ⟨gb204, 1, none⟩) (by first | (rw [add_block]; exact hn205_1) | (show (Addr.add _ _).block ≠ _; rw [add_block]; exact hn205_1) | exact hn205_1) (.int .i64 t200)).trans hx205_1
                replace hx205_2 := (cell_far (p := ⟨gb204, 1, none⟩) (by first | (rw [add_block]; exact hn205_1) | (show (Addr.add _ _).block ≠ _; rw [add_block]; exact hn205_1) | exact hn205_1) (.int .i64 t200)).trans hx205_2
                replace hx205_3 := (cell_far (p := ⟨gb204, 1, none⟩) (by first | (rw [add_block]; exact hn205_1) | (show (Addr.add _ _).block ≠ _; rw [add_block]; exact hn205_1) | exact hn205_1) (.int .i64 t200)).trans hx205_3
                replace hx205_0 := (cell_far (p := ⟨gb204, 2, none⟩) (by first | (rw [add_block]; exact hn205_2) | (show (Addr.add _ _).block ≠ _; rw [add_block]; exact hn205_2) | exact hn205_2) (.string t201)).trans hx205_0
                replace hx205_1 := (cell_far (p := ⟨gb204, 2, none⟩) (by first | (rw [add_block]; exact hn205_2) | (show (Addr.add _ _).block ≠ _; rw [add_block]; exact hn205_2) | exact hn205_2) (.string t201)).trans hx205_1
                replace hx205_2 := (cell_far (p := ⟨gb204, 2, none⟩) (by first | (rw [add_block]; exact hn205_2) | (show (Addr.add _ _).block ≠ _; rw [add_block]; exact hn205_2) | exact hn205_2) (.string t201)).trans hx205_2
                replace hx205_3 := (cell_far (p := ⟨gb204, 2, none⟩) (by first | (rw [add_block]; exact hn205_2) | (show (Addr.add _ _).block ≠ _; rw [add_block]; exact hn205_2) | exact hn205_2) (.string t201)).trans hx205_3
                replace hx205_0 := (cell_far (p := ⟨gb204, 3, none⟩) (by first | (rw [add_block]; exact hn205_3) | (show (Addr.add _ _).block ≠ _; rw [add_block]; exact hn205_3) | exact hn205_3) (.string t202)).trans hx205_0
                replace hx205_1 := (cell_far (p := ⟨gb204, 3, none⟩) (by first | (rw [add_block]; exact hn205_3) | (show (Addr.add _ _).block ≠ _; rw [add_block]; exact hn205_3) | exact hn205_3) (.string t202)).trans hx205_1
                replace hx205_2 := (cell_far (p := ⟨gb204, 3, none⟩) (by first | (rw [add_block]; exact hn205_3) | (show (Addr.add _ _).block ≠ _; rw [add_block]; exact hn205_3) | exact hn205_3) (.string t202)).trans hx205_2
                replace hx205_3 := (cell_far (p := ⟨gb204, 3, none⟩) (by first | (rw [add_block]; exact hn205_3) | (show (Addr.add _ _).block ≠ _; rw [add_block]; exact hn205_3) | exact hn205_3) (.string t202)).trans hx205_3
                clear hn205_0
                clear hn205_1
                clear hn205_2
                clear hn205_3
                replace p205 := eq_true p205
                replace q205 := eq_true q205
                have p206 : 0 ≤ (x9_1 : Int) := of_decide_eq_true (by first | (with_reducible assumption) | assumption)
                have q206 : x9_1 < (l1.length : Int) := of_decide_eq_true (by first | (with_reducible assumption) | assumption)
                obtain ⟨ad206, e206, hx206_0, hx206_1, hx206_2, hx206_3⟩ := at_T26 HR1.out x9_1 p206 q206
                obtain rfl : ad198 = ad206 := (by injection e206)
                have hn206_0 : ad198.block ≠ gb204 := Nat.ne_of_lt (Nat.lt_of_lt_of_le (by have := World.block_lt_of_cell? _ _ hx206_0; first | rwa [add_block] at this | exact this) GW204.out)
                have hn206_1 : ad198.block ≠ gb204 := Nat.ne_of_lt (Nat.lt_of_lt_of_le (by have := World.block_lt_of_cell? _ _ hx206_0; first | rwa [add_block] at this | exact this) GW204.out)
                have hn206_2 : ad198.block ≠ gb204 := Nat.ne_of_lt (Nat.lt_of_lt_of_le (by have := World.block_lt_of_cell? _ _ hx206_0; first | rwa [add_block] at this | exact this) GW204.out)
                have hn206_3 : ad198.block ≠ gb204 := Nat.ne_of_lt (Nat.lt_of_lt_of_le (by have := World.block_lt_of_cell? _ _ hx206_0; first | rwa [add_block] at this | exact this) GW204.out)
                replace hx206_0 := (HB.out.cell (World.block_lt_of_cell? w _ hx206_0)).trans hx206_0
                replace hx206_1 := (HB.out.cell (World.block_lt_of_cell? w _ hx206_1)).trans hx206_1
                replace hx206_2 := (HB.out.cell (World.block_lt_of_cell? w _ hx206_2)).trans hx206_2
                replace hx206_3 := (HB.out.cell (World.block_lt_of_cell? w _ hx206_3)).trans hx206_3
                replace hx206_0 := (cell_far (p := ⟨gb204, 0, none⟩) (by first | (rw [add_block]; exact hn206_0) | (show (Addr.add _ _).block ≠ _; rw [add_block]; exact hn206_0) | exact hn206_0) (.int .i64 t199)).trans hx206_0
                replace hx206_1 := (cell_far (p := ⟨gb204, 0, none⟩) (by first | (rw [add_block]; exact hn206_0) | (show (Addr.add _ _).block ≠ _; rw [add_block]; exact hn206_0) | exact hn206_0) (.int .i64 t199)).trans hx206_1
                replace hx206_2 := (cell_far (p := ⟨gb204, 0, none⟩) (by first | (rw [add_block]; exact hn206_0) | (show (Addr.add _ _).block ≠ _; rw [add_block]; exact hn206_0) | exact hn206_0) (.int .i64 t199)).trans hx206_2
                replace hx206_3 := (cell_far (p := ⟨gb204, 0, none⟩) (by first | (rw [add_block]; exact hn206_0) | (show (Addr.add _ _).block ≠ _; rw [add_block]; exact hn206_0) | exact hn206_0) (.int .i64 t199)).trans hx206_3
                replace hx206_0 := (cell_far (p := ⟨gb204, 1, none⟩) (by first | (rw [add_block]; exact hn206_1) | (show (Addr.add _ _).block ≠ _; rw [add_block]; exact hn206_1) | exact hn206_1) (.int .i64 t200)).trans hx206_0
                replace hx206_1 := (cell_far (p := ⟨gb204, 1, none⟩) (by first | (rw [add_block]; exact hn206_1) | (show (Addr.add _ _).block ≠ _; rw [add_block]; exact hn206_1) | exact hn206_1) (.int .i64 t200)).trans hx206_1
                replace hx206_2 := (cell_far (p := ⟨gb204, 1, none⟩) (by first | (rw [add_block]; exact hn206_1) | (show (Addr.add _ _).block ≠ _; rw [add_block]; exact hn206_1) | exact hn206_1) (.int .i64 t200)).trans hx206_2
                replace hx206_3 := (cell_far (p := ⟨gb204, 1, none⟩) (by first | (rw [add_block]; exact hn206_1) | (show (Addr.add _ _).block ≠ _; rw [add_block]; exact hn206_1) | exact hn206_1) (.int .i64 t200)).trans hx206_3
                replace hx206_0 := (cell_far (p := ⟨gb204, 2, none⟩) (by first | (rw [add_block]; exact hn206_2) | (show (Addr.add _ _).block ≠ _; rw [add_block]; exact hn206_2) | exact hn206_2) (.string t201)).trans hx206_0
                replace hx206_1 := (cell_far (p := ⟨gb204, 2, none⟩) (by first | (rw [add_block]; exact hn206_2) | (show (Addr.add _ _).block ≠ _; rw [add_block]; exact hn206_2) | exact hn206_2) (.string t201)).trans hx206_1
                replace hx206_2 := (cell_far (p := ⟨gb204, 2, none⟩) (by first | (rw [add_block]; exact hn206_2) | (show (Addr.add _ _).block ≠ _; rw [add_block]; exact hn206_2) | exact hn206_2) (.string t201)).trans hx206_2
                replace hx206_3 := (cell_far (p := ⟨gb204, 2, none⟩) (by first | (rw [add_block]; exact hn206_2) | (show (Addr.add _ _).block ≠ _; rw [add_block]; exact hn206_2) | exact hn206_2) (.string t201)).trans hx206_3
                replace hx206_0 := (cell_far (p := ⟨gb204, 3, none⟩) (by first | (rw [add_block]; exact hn206_3) | (show (Addr.add _ _).block ≠ _; rw [add_block]; exact hn206_3) | exact hn206_3) (.string t202)).trans hx206_0
                replace hx206_1 := (cell_far (p := ⟨gb204, 3, none⟩) (by first | (rw [add_block]; exact hn206_3) | (show (Addr.add _ _).block ≠ _; rw [add_block]; exact hn206_3) | exact hn206_3) (.string t202)).trans hx206_1
                replace hx206_2 := (cell_far (p := ⟨gb204, 3, none⟩) (by first | (rw [add_block]; exact hn206_3) | (show (Addr.add _ _).block ≠ _; rw [add_block]; exact hn206_3) | exact hn206_3) (.string t202)).trans hx206_2
                replace hx206_3 := (cell_far (p := ⟨gb204, 3, none⟩) (by first | (rw [add_block]; exact hn206_3) | (show (Addr.add _ _).block ≠ _; rw [add_block]; exact hn206_3) | exact hn206_3) (.string t202)).trans hx206_3
                clear hn206_0
                clear hn206_1
                clear hn206_2
                clear hn206_3
                replace p206 := eq_true p206
                replace q206 := eq_true q206
                go_wp2
                go_meet
                case rel => exact ⟨_, ((((rd_T26 l1 x9_1).f0) == 3)), (by first | rfl | (simp; done) | (simp [*]; done)), H', ⟨by have := HK1.out; first | omega | exact Nat.le_refl _⟩, ⟨by (with_reducible repeat (first | apply Kd.R_alloc | apply Kd.R_drewN | apply Kd.R_drew)); exact Kd.R_mono (Kd.R_far (p := ⟨gb204, 3, none⟩) (Kd.R_far (p := ⟨gb204, 2, none⟩) (Kd.R_far (p := ⟨gb204, 1, none⟩) (Kd.R_far (p := ⟨gb204, 0, none⟩) (Kd.R_types HO_7.out BK204.out (by decide)) (fun _ hk => hk.2) (.int .i64 t199)) (fun _ hk => hk.2) (.int .i64 t200)) (fun _ hk => hk.2) (.string t201)) (fun _ hk => hk.2) (.string t202)) (fun _ hk => hk.1)⟩, ⟨by (with_reducible repeat (first | apply Kd.R_alloc | apply Kd.R_drewN | apply Kd.R_drew)); exact Kd.R_mono (Kd.R_far (p := ⟨gb204, 3, none⟩) (Kd.R_far (p := ⟨gb204, 2, none⟩) (Kd.R_far (p := ⟨gb204, 1, none⟩) (Kd.R_far (p := ⟨gb204, 0, none⟩) (Kd.R_types HO_8.out BK204.out (by decide)) (fun _ hk => hk.2) (.int .i64 t199)) (fun _ hk => hk.2) (.int .i64 t200)) (fun _ hk => hk.2) (.string t201)) (fun _ hk => hk.2) (.string t202)) (fun _ hk => hk.1)⟩, ⟨by (with_reducible repeat (first | refine blk_drewN ?_ _ | refine blk_drew ?_ | refine blk_alloc ?_ _)); refine blk_put (cs := #[.int .i64 t199, .int .i64 t200, .string t201, .string (⟨#[]⟩ : ByteArray)]) ?_ 3 _ rfl; (with_reducible repeat (first | refine blk_drewN ?_ _ | refine blk_drew ?_ | refine blk_alloc ?_ _)); refine blk_put (cs := #[.int .i64 t199, .int .i64 t200, .string (⟨#[]⟩ : ByteArray), .string (⟨#[]⟩ : ByteArray)]) ?_ 2 _ rfl; (with_reducible repeat (first | refine blk_drewN ?_ _ | refine blk_drew ?_ | refine blk_alloc ?_ _)); refine blk_put (cs := #[.int .i64 t199, .int .i64 0, .string (⟨#[]⟩ : ByteArray), .string (⟨#[]⟩ : ByteArray)]) ?_ 1 _ rfl; (with_reducible repeat (first | refine blk_drewN ?_ _ | refine blk_drew ?_ | refine blk_alloc ?_ _)); refine blk_put (cs := #[.int .i64 0, .int .i64 0, .string (⟨#[]⟩ : ByteArray), .string (⟨#[]⟩ : ByteArray)]) ?_ 0 _ rfl; (with_reducible repeat (first | refine blk_drewN ?_ _ | refine blk_drew ?_ | refine blk_alloc ?_ _)); exact BK204.out⟩, ⟨by repeat (first | (with_reducible first | exact HB.out | apply below_alloc | apply pw_below_drewN | apply below_drew1 | refine below_set ?_ GE204.out) | exact HB.out)⟩⟩
            case rest =>
              clear HC7
              try clear c1
              try clear p1
              try clear q1
              try clear hx1
              try clear c2
              try clear p2
              try clear q2
              try clear hx2
              try clear c3
              try clear c3b0
              try clear c4
              try clear c4b0
              try clear c6
              try clear c6b0
              try clear c6b1
              try clear c11
              try clear c11b0
              try clear c11b1
              try clear hcz10_0
              try clear hcz10_1
              try clear hcz10_2
              try clear hcz10_3
              try clear hfz10_0
              try clear hfz10_1
              try clear hfz10_2
              try clear hfz10_3
              try clear hx198_0
              try clear hx198_1
              try clear hx198_2
              try clear hx198_3
              try clear hx205_0
              try clear hx205_1
              try clear hx205_2
              try clear hx205_3
              try clear hx206_0
              try clear hx206_1
              try clear hx206_2
              try clear hx206_3
              try clear p198
              try clear p2
              try clear p205
              try clear p206
              try clear q198
              try clear q205
              try clear q206
              obtain ⟨kq, x47_6, rfl, HA, HJ6, HO_7, HO_8, BK204, HB⟩ := hcut
              cases kq with
              | zero => exact absurd HA.out (by simp [cartoucheref07_Twins.j1])
              | succ kj6 =>
                have H := HA.out
                clear HA
                simp only [cartoucheref07_Twins.j1] at H
                by_cases c12 : x47_6 = true
                · subst c12
                  have H1 : (if 0 ≤ x9_1 then (if x9_1 < (l1.length : Int) then (if 1 + ((rd_T26 l1 x9_1).f2).size ≤ 9223372036854775807 then (if ((rd_T26 l1 x9_1).f3).toList = ([] : List UInt8) then (if x7_1.length < 8796093022208 then (if x8_1.length < 8796093022208 then (cartoucheref07_Twins.l0 kj6 a0 l1 (x7_1 ++ [(⟨#[5]⟩ : ByteArray) ++ ((rd_T26 l1 x9_1).f2)]) (x8_1 ++ [(⟨#[]⟩ : ByteArray)]) (wrap64 (x9_1 + 1))) else (none)) else (none)) else (if 1 + ((rd_T26 l1 x9_1).f3).size ≤ 9223372036854775807 then (if x7_1.length < 8796093022208 then (if x8_1.length < 8796093022208 then (cartoucheref07_Twins.l0 kj6 a0 l1 (x7_1 ++ [(⟨#[5]⟩ : ByteArray) ++ ((rd_T26 l1 x9_1).f2)]) (x8_1 ++ [(⟨#[6]⟩ : ByteArray) ++ ((rd_T26 l1 x9_1).f3)]) (wrap64 (x9_1 + 1))) else (none)) else (none)) else (none))) else (none)) else (none)) else (none)) = some (r1, r2, r3) := by rw [if_pos rfl] at H; exact H
                  clear H
                  have H := H1
                  clear H1
                  by_cases c13 : 0 ≤ x9_1
                  · rw [if_pos c13] at H
                    have c13b0 : decide (0 ≤ x9_1) = true := decide_eq_true c13
                    clear c13
                    by_cases c14 : x9_1 < (l1.length : Int)
                    · rw [if_pos c14] at H
                      have c14b0 : decide (x9_1 < (l1.length : Int)) = true := decide_eq_true c14
                      clear c14
                      by_cases c15 : 1 + ((rd_T26 l1 x9_1).f2).size ≤ 9223372036854775807
                      · rw [if_pos c15] at H
                        have c15b0 := eq_true c15
                        have c15b1 : decide (1 + ((rd_T26 l1 x9_1).f2).size ≤ 9223372036854775807) = true := decide_eq_true c15
                        try have c15b2 : (9223372036854775807 < 1 + ((rd_T26 l1 x9_1).f2).size) = False := eq_false (Nat.not_lt.2 c15)
                        by_cases c16 : ((rd_T26 l1 x9_1).f3).toList = ([] : List UInt8)
                        · rw [if_pos c16] at H
                          have c16b0 : (((rd_T26 l1 x9_1).f3).toList == ([] : List UInt8)) = true := beq_iff_eq.mpr c16
                          have c16b2 : (((rd_T26 l1 x9_1).f3).toList).isEmpty = true := List.isEmpty_iff.mpr c16
                          have c16b1 : (((rd_T26 l1 x9_1).f3).toList != ([] : List UInt8)) = false := bne_eq_false_iff_eq.mpr c16
                          clear c16
                          by_cases c17 : x7_1.length < 8796093022208
                          · rw [if_pos c17] at H
                            have LMc17 := Aside0.mk c17
                            clear c17
                            obtain ⟨y209, hy209⟩ : ∃ y_ : List ByteArray, y_ = (x7_1 ++ [(⟨#[5]⟩ : ByteArray) ++ ((rd_T26 l1 x9_1).f2)]) := ⟨_, rfl⟩
                            replace H : (if x8_1.length < 8796093022208 then (cartoucheref07_Twins.l0 kj6 a0 l1 y209 (x8_1 ++ [(⟨#[]⟩ : ByteArray)]) (wrap64 (x9_1 + 1))) else (none)) = some (r1, r2, r3) := by first | (rw [hy209]; with_reducible exact H) | (have H2_ := (Option.bind_some _ _).symm.trans H; rw [hy209]; with_reducible exact H2_) | (have H2_ := (Option.bind_some _ _).symm.trans H; with_reducible exact H2_) | with_reducible exact H | (rw [hy209]; exact H) | exact H
                            have Ny209 := Aside0.mk hy209
                            clear hy209
                            by_cases c18 : x8_1.length < 8796093022208
                            · rw [if_pos c18] at H
                              have LMc18 := Aside0.mk c18
                              clear c18
                              obtain ⟨y212, hy212⟩ : ∃ y_ : List ByteArray, y_ = (x8_1 ++ [(⟨#[]⟩ : ByteArray)]) := ⟨_, rfl⟩
                              replace H : (cartoucheref07_Twins.l0 kj6 a0 l1 y209 y212 (wrap64 (x9_1 + 1))) = some (r1, r2, r3) := by first | (rw [hy212]; with_reducible exact H) | (have H2_ := (Option.bind_some _ _).symm.trans H; rw [hy212]; with_reducible exact H2_) | (have H2_ := (Option.bind_some _ _).symm.trans H; with_reducible exact H2_) | with_reducible exact H | (rw [hy212]; exact H) | exact H
                              have Ny212 := Aside0.mk hy212
                              clear hy212
                              have H' := Aside0.mk H
                              clear H
                              have p207 : 0 ≤ (x9_1 : Int) := of_decide_eq_true (by first | (with_reducible assumption) | assumption)
                              have q207 : x9_1 < (l1.length : Int) := of_decide_eq_true (by first | (with_reducible assumption) | assumption)
                              obtain ⟨ad207, e207, hx207_0, hx207_1, hx207_2, hx207_3⟩ := at_T26 HR1.out x9_1 p207 q207
                              obtain rfl : ad198 = ad207 := (by injection e207)
                              replace hx207_0 := (HB.out.cell (World.block_lt_of_cell? w _ hx207_0)).trans hx207_0
                              replace hx207_1 := (HB.out.cell (World.block_lt_of_cell? w _ hx207_1)).trans hx207_1
                              replace hx207_2 := (HB.out.cell (World.block_lt_of_cell? w _ hx207_2)).trans hx207_2
                              replace hx207_3 := (HB.out.cell (World.block_lt_of_cell? w _ hx207_3)).trans hx207_3
                              replace p207 := eq_true p207
                              replace q207 := eq_true q207
                              have p208 : 0 ≤ (x9_1 : Int) := of_decide_eq_true (by first | (with_reducible assumption) | assumption)
                              have q208 : x9_1 < (l1.length : Int) := of_decide_eq_true (by first | (with_reducible assumption) | assumption)
                              obtain ⟨ad208, e208, hx208_0, hx208_1, hx208_2, hx208_3⟩ := at_T26 HR1.out x9_1 p208 q208
                              obtain rfl : ad198 = ad208 := (by injection e208)
                              replace hx208_0 := (HB.out.cell (World.block_lt_of_cell? w _ hx208_0)).trans hx208_0
                              replace hx208_1 := (HB.out.cell (World.block_lt_of_cell? w _ hx208_1)).trans hx208_1
                              replace hx208_2 := (HB.out.cell (World.block_lt_of_cell? w _ hx208_2)).trans hx208_2
                              replace hx208_3 := (HB.out.cell (World.block_lt_of_cell? w _ hx208_3)).trans hx208_3
                              replace p208 := eq_true p208
                              replace q208 := eq_true q208
                              go_wp2_with (first | ((with_reducible refine look_builtin (b := .append) (xs := #[.tmp 66, .tmp 68]) rfl ?_); at_builtin; refine Kd.R_append Kd.string (w0 := w) w.heap.size rfl (.tmp 66) (.tmp 68) 65 9 (.string ⟨#[]⟩) 16 rfl Tryd.underlying65 info9 rfl (by decide) (by omega) u7 x7_1 ((⟨#[5]⟩ : ByteArray) ++ ((rd_T26 l1 x9_1).f2)) [.string ((⟨#[5]⟩ : ByteArray) ++ ((rd_T26 l1 x9_1).f2))] (fun k_ => some k_ ≠ (u8 : Value).ownBlock) (fun _ => False) rfl rfl ?aP (fun _ hk => hk.elim) ?aF ?aO ?aB ?aS ?aL ?_; (case aP => exact rfl); (case aB => exact (by repeat (first | (with_reducible first | exact HB.out | apply below_alloc | apply pw_below_drewN | apply below_drew1 | refine below_set ?_ GE204.out) | exact HB.out))); (case aF => exact (fun k_ hk => Kd.fresh' (Kd.R_lt (by (with_reducible repeat (first | apply Kd.R_alloc | apply Kd.R_drewN | apply Kd.R_drew)); exact HO_8.out)) k_ hk)); (case aO => exact (by (with_reducible repeat (first | apply Kd.R_alloc | apply Kd.R_drewN | apply Kd.R_drew)); exact HO_7.out)); (case aS => exact (below_size (by repeat (first | (with_reducible first | exact HB.out | apply below_alloc | apply pw_below_drewN | apply below_drew1 | refine below_set ?_ GE204.out) | exact HB.out)))); (case aL => have := LMc17.out; omega); intro v210 w19 ho hb hg hat; rw [← Ny209.out] at ho; have n0_ := Aside0.mk (Kd.R_after (ok := (fun _ => True)) (by (with_reducible repeat (first | apply Kd.R_alloc | apply Kd.R_drewN | apply Kd.R_drew)); exact Kd.R_mono HO_8.out (fun _ hk => ⟨trivial, hk⟩)) hg hat); have n1_ := Aside0.mk (blk_grown (g := gb204) (o := .cells #[.int .i64 t199, .int .i64 t200, .string t201, .string t202] 26 (0, 0)) (by (with_reducible repeat (first | refine blk_drewN ?_ _ | refine blk_drew ?_ | refine blk_alloc ?_ _)); exact BK204.out) hg (Kd.R_ne HO_7.out BK204.out (by decide))); have n2_ := Aside0.mk (hb); have n3_ := Aside0.mk (ho); clear HO_8; clear BK204; clear HB; clear HO_7; have HO_8 := n0_; have BK204 := n1_; have HB := n2_; have HO211 := n3_; clear n0_ n1_ n2_ n3_; clear ho hb hg hat) | ((with_reducible refine look_builtin (b := .append) (xs := #[.tmp 70, .tmp 72]) rfl ?_); at_builtin; refine Kd.R_append Kd.string (w0 := w) w.heap.size rfl (.tmp 70) (.tmp 72) 65 9 (.string ⟨#[]⟩) 16 rfl Tryd.underlying65 info9 rfl (by decide) (by omega) u8 x8_1 (⟨#[]⟩ : ByteArray) [.string (⟨#[]⟩ : ByteArray)] (fun k_ => some k_ ≠ (v210 : Value).ownBlock) (fun _ => False) rfl rfl ?aP (fun _ hk => hk.elim) ?aF ?aO ?aB ?aS ?aL ?_; (case aP => exact rfl); (case aB => exact (by repeat (first | (with_reducible first | exact HB.out | apply below_alloc | apply pw_below_drewN | apply below_drew1 | refine below_set ?_ GE204.out) | exact HB.out))); (case aF => exact (fun k_ hk => Kd.fresh' (Kd.R_lt (by (with_reducible repeat (first | apply Kd.R_alloc | apply Kd.R_drewN | apply Kd.R_drew)); exact HO211.out)) k_ hk)); (case aO => exact (by (with_reducible repeat (first | apply Kd.R_alloc | apply Kd.R_drewN | apply Kd.R_drew)); exact Kd.R_mono HO_8.out (fun _ hk => hk.2))); (case aS => exact (below_size (by repeat (first | (with_reducible first | exact HB.out | apply below_alloc | apply pw_below_drewN | apply below_drew1 | refine below_set ?_ GE204.out) | exact HB.out)))); (case aL => have := LMc18.out; omega); intro v213 w20 ho hb hg hat; rw [← Ny212.out] at ho; have n0_ := Aside0.mk (blk_grown (g := gb204) (o := .cells #[.int .i64 t199, .int .i64 t200, .string t201, .string t202] 26 (0, 0)) (by (with_reducible repeat (first | refine blk_drewN ?_ _ | refine blk_drew ?_ | refine blk_alloc ?_ _)); exact BK204.out) hg (Kd.R_ne HO_8.out BK204.out (by decide))); have n1_ := Aside0.mk (Kd.R_after (ok := (fun _ => True)) (by (with_reducible repeat (first | apply Kd.R_alloc | apply Kd.R_drewN | apply Kd.R_drew)); exact Kd.R_mono HO211.out (fun _ hk => ⟨trivial, hk⟩)) hg hat); have n2_ := Aside0.mk (hb); have n3_ := Aside0.mk (ho); clear BK204; clear HO211; clear HB; clear HO_8; have BK204 := n0_; have HO211 := n1_; have HB := n2_; have HO214 := n3_; clear n0_ n1_ n2_ n3_; clear ho hb hg hat))
                              go_roundg kj6
                              case measure => have := HK1.out; have := HJ6.out; omega
                              case rel => exact ⟨(y209), (y212), (wrap64 (x9_1 + 1)), (by first | rfl | (simp; done) | (simp [*]; done)), H', ⟨by have := HK1.out; have := HJ6.out; omega⟩, ⟨by (with_reducible repeat (first | apply Kd.R_alloc | apply Kd.R_drewN | apply Kd.R_drew)); exact Kd.R_mono HO211.out (fun _ hk => hk.2)⟩, ⟨by (with_reducible repeat (first | apply Kd.R_alloc | apply Kd.R_drewN | apply Kd.R_drew)); exact HO214.out⟩, ⟨by repeat (first | (with_reducible first | exact HB.out | apply below_alloc | apply pw_below_drewN | apply below_drew1 | refine below_set ?_ GE204.out) | exact HB.out)⟩⟩
                            · rw [if_neg c18] at H
                              exact absurd H (by simp)
                          · rw [if_neg c17] at H
                            exact absurd H (by simp)
                        · rw [if_neg c16] at H
                          have c16b0 : (((rd_T26 l1 x9_1).f3).toList == ([] : List UInt8)) = false := beq_eq_false_iff_ne.mpr c16
                          have c16b2 : (((rd_T26 l1 x9_1).f3).toList).isEmpty = false := (by rw [← Bool.not_eq_true, List.isEmpty_iff]; exact c16)
                          have c16b1 : (((rd_T26 l1 x9_1).f3).toList != ([] : List UInt8)) = true := bne_iff_ne.mpr c16
                          by_cases c21 : 1 + ((rd_T26 l1 x9_1).f3).size ≤ 9223372036854775807
                          · rw [if_pos c21] at H
                            have c21b0 := eq_true c21
                            have c21b1 : decide (1 + ((rd_T26 l1 x9_1).f3).size ≤ 9223372036854775807) = true := decide_eq_true c21
                            try have c21b2 : (9223372036854775807 < 1 + ((rd_T26 l1 x9_1).f3).size) = False := eq_false (Nat.not_lt.2 c21)
                            by_cases c22 : x7_1.length < 8796093022208
                            · rw [if_pos c22] at H
                              have LMc22 := Aside0.mk c22
                              clear c22
                              obtain ⟨y216, hy216⟩ : ∃ y_ : List ByteArray, y_ = (x7_1 ++ [(⟨#[5]⟩ : ByteArray) ++ ((rd_T26 l1 x9_1).f2)]) := ⟨_, rfl⟩
                              replace H : (if x8_1.length < 8796093022208 then (cartoucheref07_Twins.l0 kj6 a0 l1 y216 (x8_1 ++ [(⟨#[6]⟩ : ByteArray) ++ ((rd_T26 l1 x9_1).f3)]) (wrap64 (x9_1 + 1))) else (none)) = some (r1, r2, r3) := by first | (rw [hy216]; with_reducible exact H) | (have H2_ := (Option.bind_some _ _).symm.trans H; rw [hy216]; with_reducible exact H2_) | (have H2_ := (Option.bind_some _ _).symm.trans H; with_reducible exact H2_) | with_reducible exact H | (rw [hy216]; exact H) | exact H
                              have Ny216 := Aside0.mk hy216
                              clear hy216
                              by_cases c23 : x8_1.length < 8796093022208
                              · rw [if_pos c23] at H
                                have LMc23 := Aside0.mk c23
                                clear c23
                                obtain ⟨y219, hy219⟩ : ∃ y_ : List ByteArray, y_ = (x8_1 ++ [(⟨#[6]⟩ : ByteArray) ++ ((rd_T26 l1 x9_1).f3)]) := ⟨_, rfl⟩
                                replace H : (cartoucheref07_Twins.l0 kj6 a0 l1 y216 y219 (wrap64 (x9_1 + 1))) = some (r1, r2, r3) := by first | (rw [hy219]; with_reducible exact H) | (have H2_ := (Option.bind_some _ _).symm.trans H; rw [hy219]; with_reducible exact H2_) | (have H2_ := (Option.bind_some _ _).symm.trans H; with_reducible exact H2_) | with_reducible exact H | (rw [hy219]; exact H) | exact H
                                have Ny219 := Aside0.mk hy219
                                clear hy219
                                have H' := Aside0.mk H
                                clear H
                                have p207 : 0 ≤ (x9_1 : Int) := of_decide_eq_true (by first | (with_reducible assumption) | assumption)
                                have q207 : x9_1 < (l1.length : Int) := of_decide_eq_true (by first | (with_reducible assumption) | assumption)
                                obtain ⟨ad207, e207, hx207_0, hx207_1, hx207_2, hx207_3⟩ := at_T26 HR1.out x9_1 p207 q207
                                obtain rfl : ad198 = ad207 := (by injection e207)
                                replace hx207_0 := (HB.out.cell (World.block_lt_of_cell? w _ hx207_0)).trans hx207_0
                                replace hx207_1 := (HB.out.cell (World.block_lt_of_cell? w _ hx207_1)).trans hx207_1
                                replace hx207_2 := (HB.out.cell (World.block_lt_of_cell? w _ hx207_2)).trans hx207_2
                                replace hx207_3 := (HB.out.cell (World.block_lt_of_cell? w _ hx207_3)).trans hx207_3
                                replace p207 := eq_true p207
                                replace q207 := eq_true q207
                                have p208 : 0 ≤ (x9_1 : Int) := of_decide_eq_true (by first | (with_reducible assumption) | assumption)
                                have q208 : x9_1 < (l1.length : Int) := of_decide_eq_true (by first | (with_reducible assumption) | assumption)
                                obtain ⟨ad208, e208, hx208_0, hx208_1, hx208_2, hx208_3⟩ := at_T26 HR1.out x9_1 p208 q208
                                obtain rfl : ad198 = ad208 := (by injection e208)
                                replace hx208_0 := (HB.out.cell (World.block_lt_of_cell? w _ hx208_0)).trans hx208_0
                                replace hx208_1 := (HB.out.cell (World.block_lt_of_cell? w _ hx208_1)).trans hx208_1
                                replace hx208_2 := (HB.out.cell (World.block_lt_of_cell? w _ hx208_2)).trans hx208_2
                                replace hx208_3 := (HB.out.cell (World.block_lt_of_cell? w _ hx208_3)).trans hx208_3
                                replace p208 := eq_true p208
                                replace q208 := eq_true q208
                                have p215 : 0 ≤ (x9_1 : Int) := of_decide_eq_true (by first | (with_reducible assumption) | assumption)
                                have q215 : x9_1 < (l1.length : Int) := of_decide_eq_true (by first | (with_reducible assumption) | assumption)
                                obtain ⟨ad215, e215, hx215_0, hx215_1, hx215_2, hx215_3⟩ := at_T26 HR1.out x9_1 p215 q215
                                obtain rfl : ad198 = ad215 := (by injection e215)
                                replace hx215_0 := (HB.out.cell (World.block_lt_of_cell? w _ hx215_0)).trans hx215_0
                                replace hx215_1 := (HB.out.cell (World.block_lt_of_cell? w _ hx215_1)).trans hx215_1
                                replace hx215_2 := (HB.out.cell (World.block_lt_of_cell? w _ hx215_2)).trans hx215_2
                                replace hx215_3 := (HB.out.cell (World.block_lt_of_cell? w _ hx215_3)).trans hx215_3
                                replace p215 := eq_true p215
                                replace q215 := eq_true q215
                                go_wp2_with (first | ((with_reducible refine look_builtin (b := .append) (xs := #[.tmp 66, .tmp 68]) rfl ?_); at_builtin; refine Kd.R_append Kd.string (w0 := w) w.heap.size rfl (.tmp 66) (.tmp 68) 65 9 (.string ⟨#[]⟩) 16 rfl Tryd.underlying65 info9 rfl (by decide) (by omega) u7 x7_1 ((⟨#[5]⟩ : ByteArray) ++ ((rd_T26 l1 x9_1).f2)) [.string ((⟨#[5]⟩ : ByteArray) ++ ((rd_T26 l1 x9_1).f2))] (fun k_ => some k_ ≠ (u8 : Value).ownBlock) (fun _ => False) rfl rfl ?aP (fun _ hk => hk.elim) ?aF ?aO ?aB ?aS ?aL ?_; (case aP => exact rfl); (case aB => exact (by repeat (first | (with_reducible first | exact HB.out | apply below_alloc | apply pw_below_drewN | apply below_drew1 | refine below_set ?_ GE204.out) | exact HB.out))); (case aF => exact (fun k_ hk => Kd.fresh' (Kd.R_lt (by (with_reducible repeat (first | apply Kd.R_alloc | apply Kd.R_drewN | apply Kd.R_drew)); exact HO_8.out)) k_ hk)); (case aO => exact (by (with_reducible repeat (first | apply Kd.R_alloc | apply Kd.R_drewN | apply Kd.R_drew)); exact HO_7.out)); (case aS => exact (below_size (by repeat (first | (with_reducible first | exact HB.out | apply below_alloc | apply pw_below_drewN | apply below_drew1 | refine below_set ?_ GE204.out) | exact HB.out)))); (case aL => have := LMc22.out; omega); intro v217 w24 ho hb hg hat; rw [← Ny216.out] at ho; have n0_ := Aside0.mk (Kd.R_after (ok := (fun _ => True)) (by (with_reducible repeat (first | apply Kd.R_alloc | apply Kd.R_drewN | apply Kd.R_drew)); exact Kd.R_mono HO_8.out (fun _ hk => ⟨trivial, hk⟩)) hg hat); have n1_ := Aside0.mk (blk_grown (g := gb204) (o := .cells #[.int .i64 t199, .int .i64 t200, .string t201, .string t202] 26 (0, 0)) (by (with_reducible repeat (first | refine blk_drewN ?_ _ | refine blk_drew ?_ | refine blk_alloc ?_ _)); exact BK204.out) hg (Kd.R_ne HO_7.out BK204.out (by decide))); have n2_ := Aside0.mk (hb); have n3_ := Aside0.mk (ho); clear HO_8; clear BK204; clear HB; clear HO_7; have HO_8 := n0_; have BK204 := n1_; have HB := n2_; have HO218 := n3_; clear n0_ n1_ n2_ n3_; clear ho hb hg hat) | ((with_reducible refine look_builtin (b := .append) (xs := #[.tmp 70, .tmp 72]) rfl ?_); at_builtin; refine Kd.R_append Kd.string (w0 := w) w.heap.size rfl (.tmp 70) (.tmp 72) 65 9 (.string ⟨#[]⟩) 16 rfl Tryd.underlying65 info9 rfl (by decide) (by omega) u8 x8_1 ((⟨#[6]⟩ : ByteArray) ++ ((rd_T26 l1 x9_1).f3)) [.string ((⟨#[6]⟩ : ByteArray) ++ ((rd_T26 l1 x9_1).f3))] (fun k_ => some k_ ≠ (v217 : Value).ownBlock) (fun _ => False) rfl rfl ?aP (fun _ hk => hk.elim) ?aF ?aO ?aB ?aS ?aL ?_; (case aP => exact rfl); (case aB => exact (by repeat (first | (with_reducible first | exact HB.out | apply below_alloc | apply pw_below_drewN | apply below_drew1 | refine below_set ?_ GE204.out) | exact HB.out))); (case aF => exact (fun k_ hk => Kd.fresh' (Kd.R_lt (by (with_reducible repeat (first | apply Kd.R_alloc | apply Kd.R_drewN | apply Kd.R_drew)); exact HO218.out)) k_ hk)); (case aO => exact (by (with_reducible repeat (first | apply Kd.R_alloc | apply Kd.R_drewN | apply Kd.R_drew)); exact Kd.R_mono HO_8.out (fun _ hk => hk.2))); (case aS => exact (below_size (by repeat (first | (with_reducible first | exact HB.out | apply below_alloc | apply pw_below_drewN | apply below_drew1 | refine below_set ?_ GE204.out) | exact HB.out)))); (case aL => have := LMc23.out; omega); intro v220 w25 ho hb hg hat; rw [← Ny219.out] at ho; have n0_ := Aside0.mk (blk_grown (g := gb204) (o := .cells #[.int .i64 t199, .int .i64 t200, .string t201, .string t202] 26 (0, 0)) (by (with_reducible repeat (first | refine blk_drewN ?_ _ | refine blk_drew ?_ | refine blk_alloc ?_ _)); exact BK204.out) hg (Kd.R_ne HO_8.out BK204.out (by decide))); have n1_ := Aside0.mk (Kd.R_after (ok := (fun _ => True)) (by (with_reducible repeat (first | apply Kd.R_alloc | apply Kd.R_drewN | apply Kd.R_drew)); exact Kd.R_mono HO218.out (fun _ hk => ⟨trivial, hk⟩)) hg hat); have n2_ := Aside0.mk (hb); have n3_ := Aside0.mk (ho); clear BK204; clear HO218; clear HB; clear HO_8; have BK204 := n0_; have HO218 := n1_; have HB := n2_; have HO221 := n3_; clear n0_ n1_ n2_ n3_; clear ho hb hg hat))
                                go_roundg kj6
                                case measure => have := HK1.out; have := HJ6.out; omega
                                case rel => exact ⟨(y216), (y219), (wrap64 (x9_1 + 1)), (by first | rfl | (simp; done) | (simp [*]; done)), H', ⟨by have := HK1.out; have := HJ6.out; omega⟩, ⟨by (with_reducible repeat (first | apply Kd.R_alloc | apply Kd.R_drewN | apply Kd.R_drew)); exact Kd.R_mono HO218.out (fun _ hk => hk.2)⟩, ⟨by (with_reducible repeat (first | apply Kd.R_alloc | apply Kd.R_drewN | apply Kd.R_drew)); exact HO221.out⟩, ⟨by repeat (first | (with_reducible first | exact HB.out | apply below_alloc | apply pw_below_drewN | apply below_drew1 | refine below_set ?_ GE204.out) | exact HB.out)⟩⟩
                              · rw [if_neg c23] at H
                                exact absurd H (by simp)
                            · rw [if_neg c22] at H
                              exact absurd H (by simp)
                          · rw [if_neg c21] at H
                            exact absurd H (by simp)
                      · rw [if_neg c15] at H
                        exact absurd H (by simp)
                    · rw [if_neg c14] at H
                      exact absurd H (by simp)
                  · rw [if_neg c13] at H
                    exact absurd H (by simp)
                · replace c12 := Bool.eq_false_iff.mpr c12
                  subst c12
                  have H1 : (if x7_1.length < 8796093022208 then (if x8_1.length < 8796093022208 then (cartoucheref07_Twins.l0 kj6 a0 l1 (x7_1 ++ [(⟨#[]⟩ : ByteArray)]) (x8_1 ++ [(⟨#[]⟩ : ByteArray)]) (wrap64 (x9_1 + 1))) else (none)) else (none)) = some (r1, r2, r3) := by rw [if_neg (show ¬ (false = true) by decide)] at H; exact H
                  clear H
                  have H := H1
                  clear H1
                  by_cases c26 : x7_1.length < 8796093022208
                  · rw [if_pos c26] at H
                    have LMc26 := Aside0.mk c26
                    clear c26
                    obtain ⟨y222, hy222⟩ : ∃ y_ : List ByteArray, y_ = (x7_1 ++ [(⟨#[]⟩ : ByteArray)]) := ⟨_, rfl⟩
                    replace H : (if x8_1.length < 8796093022208 then (cartoucheref07_Twins.l0 kj6 a0 l1 y222 (x8_1 ++ [(⟨#[]⟩ : ByteArray)]) (wrap64 (x9_1 + 1))) else (none)) = some (r1, r2, r3) := by first | (rw [hy222]; with_reducible exact H) | (have H2_ := (Option.bind_some _ _).symm.trans H; rw [hy222]; with_reducible exact H2_) | (have H2_ := (Option.bind_some _ _).symm.trans H; with_reducible exact H2_) | with_reducible exact H | (rw [hy222]; exact H) | exact H
                    have Ny222 := Aside0.mk hy222
                    clear hy222
                    by_cases c27 : x8_1.length < 8796093022208
                    · rw [if_pos c27] at H
                      have LMc27 := Aside0.mk c27
                      clear c27
                      obtain ⟨y225, hy225⟩ : ∃ y_ : List ByteArray, y_ = (x8_1 ++ [(⟨#[]⟩ : ByteArray)]) := ⟨_, rfl⟩
                      replace H : (cartoucheref07_Twins.l0 kj6 a0 l1 y222 y225 (wrap64 (x9_1 + 1))) = some (r1, r2, r3) := by first | (rw [hy225]; with_reducible exact H) | (have H2_ := (Option.bind_some _ _).symm.trans H; rw [hy225]; with_reducible exact H2_) | (have H2_ := (Option.bind_some _ _).symm.trans H; with_reducible exact H2_) | with_reducible exact H | (rw [hy225]; exact H) | exact H
                      have Ny225 := Aside0.mk hy225
                      clear hy225
                      have H' := Aside0.mk H
                      clear H
                      go_wp2_with (first | ((with_reducible refine look_builtin (b := .append) (xs := #[.tmp 66, .tmp 68]) rfl ?_); at_builtin; refine Kd.R_append Kd.string (w0 := w) w.heap.size rfl (.tmp 66) (.tmp 68) 65 9 (.string ⟨#[]⟩) 16 rfl Tryd.underlying65 info9 rfl (by decide) (by omega) u7 x7_1 (⟨#[]⟩ : ByteArray) [.string (⟨#[]⟩ : ByteArray)] (fun k_ => some k_ ≠ (u8 : Value).ownBlock) (fun _ => False) rfl rfl ?aP (fun _ hk => hk.elim) ?aF ?aO ?aB ?aS ?aL ?_; (case aP => exact rfl); (case aB => exact (by repeat (first | (with_reducible first | exact HB.out | apply below_alloc | apply pw_below_drewN | apply below_drew1 | refine below_set ?_ GE204.out) | exact HB.out))); (case aF => exact (fun k_ hk => Kd.fresh' (Kd.R_lt (by (with_reducible repeat (first | apply Kd.R_alloc | apply Kd.R_drewN | apply Kd.R_drew)); exact HO_8.out)) k_ hk)); (case aO => exact (by (with_reducible repeat (first | apply Kd.R_alloc | apply Kd.R_drewN | apply Kd.R_drew)); exact HO_7.out)); (case aS => exact (below_size (by repeat (first | (with_reducible first | exact HB.out | apply below_alloc | apply pw_below_drewN | apply below_drew1 | refine below_set ?_ GE204.out) | exact HB.out)))); (case aL => have := LMc26.out; omega); intro v223 w28 ho hb hg hat; rw [← Ny222.out] at ho; have n0_ := Aside0.mk (Kd.R_after (ok := (fun _ => True)) (by (with_reducible repeat (first | apply Kd.R_alloc | apply Kd.R_drewN | apply Kd.R_drew)); exact Kd.R_mono HO_8.out (fun _ hk => ⟨trivial, hk⟩)) hg hat); have n1_ := Aside0.mk (blk_grown (g := gb204) (o := .cells #[.int .i64 t199, .int .i64 t200, .string t201, .string t202] 26 (0, 0)) (by (with_reducible repeat (first | refine blk_drewN ?_ _ | refine blk_drew ?_ | refine blk_alloc ?_ _)); exact BK204.out) hg (Kd.R_ne HO_7.out BK204.out (by decide))); have n2_ := Aside0.mk (hb); have n3_ := Aside0.mk (ho); clear HO_8; clear BK204; clear HB; clear HO_7; have HO_8 := n0_; have BK204 := n1_; have HB := n2_; have HO224 := n3_; clear n0_ n1_ n2_ n3_; clear ho hb hg hat) | ((with_reducible refine look_builtin (b := .append) (xs := #[.tmp 70, .tmp 72]) rfl ?_); at_builtin; refine Kd.R_append Kd.string (w0 := w) w.heap.size rfl (.tmp 70) (.tmp 72) 65 9 (.string ⟨#[]⟩) 16 rfl Tryd.underlying65 info9 rfl (by decide) (by omega) u8 x8_1 (⟨#[]⟩ : ByteArray) [.string (⟨#[]⟩ : ByteArray)] (fun k_ => some k_ ≠ (v223 : Value).ownBlock) (fun _ => False) rfl rfl ?aP (fun _ hk => hk.elim) ?aF ?aO ?aB ?aS ?aL ?_; (case aP => exact rfl); (case aB => exact (by repeat (first | (with_reducible first | exact HB.out | apply below_alloc | apply pw_below_drewN | apply below_drew1 | refine below_set ?_ GE204.out) | exact HB.out))); (case aF => exact (fun k_ hk => Kd.fresh' (Kd.R_lt (by (with_reducible repeat (first | apply Kd.R_alloc | apply Kd.R_drewN | apply Kd.R_drew)); exact HO224.out)) k_ hk)); (case aO => exact (by (with_reducible repeat (first | apply Kd.R_alloc | apply Kd.R_drewN | apply Kd.R_drew)); exact Kd.R_mono HO_8.out (fun _ hk => hk.2))); (case aS => exact (below_size (by repeat (first | (with_reducible first | exact HB.out | apply below_alloc | apply pw_below_drewN | apply below_drew1 | refine below_set ?_ GE204.out) | exact HB.out)))); (case aL => have := LMc27.out; omega); intro v226 w29 ho hb hg hat; rw [← Ny225.out] at ho; have n0_ := Aside0.mk (blk_grown (g := gb204) (o := .cells #[.int .i64 t199, .int .i64 t200, .string t201, .string t202] 26 (0, 0)) (by (with_reducible repeat (first | refine blk_drewN ?_ _ | refine blk_drew ?_ | refine blk_alloc ?_ _)); exact BK204.out) hg (Kd.R_ne HO_8.out BK204.out (by decide))); have n1_ := Aside0.mk (Kd.R_after (ok := (fun _ => True)) (by (with_reducible repeat (first | apply Kd.R_alloc | apply Kd.R_drewN | apply Kd.R_drew)); exact Kd.R_mono HO224.out (fun _ hk => ⟨trivial, hk⟩)) hg hat); have n2_ := Aside0.mk (hb); have n3_ := Aside0.mk (ho); clear BK204; clear HO224; clear HB; clear HO_8; have BK204 := n0_; have HO224 := n1_; have HB := n2_; have HO227 := n3_; clear n0_ n1_ n2_ n3_; clear ho hb hg hat))
                      go_roundg kj6
                      case measure => have := HK1.out; have := HJ6.out; omega
                      case rel => exact ⟨(y222), (y225), (wrap64 (x9_1 + 1)), (by first | rfl | (simp; done) | (simp [*]; done)), H', ⟨by have := HK1.out; have := HJ6.out; omega⟩, ⟨by (with_reducible repeat (first | apply Kd.R_alloc | apply Kd.R_drewN | apply Kd.R_drew)); exact Kd.R_mono HO224.out (fun _ hk => hk.2)⟩, ⟨by (with_reducible repeat (first | apply Kd.R_alloc | apply Kd.R_drewN | apply Kd.R_drew)); exact HO227.out⟩, ⟨by repeat (first | (with_reducible first | exact HB.out | apply below_alloc | apply pw_below_drewN | apply below_drew1 | refine below_set ?_ GE204.out) | exact HB.out)⟩⟩
                    · rw [if_neg c27] at H
                      exact absurd H (by simp)
                  · rw [if_neg c26] at H
                    exact absurd H (by simp)
          · rw [if_neg c6] at H
            have c6b0 : (t203 == 0) = false := beq_eq_false_iff_ne.mpr c6
            have c6b1 : (t203 != 0) = true := bne_iff_ne.mpr c6
            simp only [Option.some.injEq, Prod.mk.injEq] at H
            obtain ⟨rfl, rfl, rfl⟩ := H
            have p198 : 0 ≤ (x9_1 : Int) := of_decide_eq_true (by first | (with_reducible assumption) | assumption)
            have q198 : x9_1 < (l1.length : Int) := of_decide_eq_true (by first | (with_reducible assumption) | assumption)
            obtain ⟨ad198, e198, hx198_0, hx198_1, hx198_2, hx198_3⟩ := at_T26 HR1.out x9_1 p198 q198
            cases e198
            replace hx198_0 := (HB.out.cell (World.block_lt_of_cell? w _ hx198_0)).trans hx198_0
            replace hx198_1 := (HB.out.cell (World.block_lt_of_cell? w _ hx198_1)).trans hx198_1
            replace hx198_2 := (HB.out.cell (World.block_lt_of_cell? w _ hx198_2)).trans hx198_2
            replace hx198_3 := (HB.out.cell (World.block_lt_of_cell? w _ hx198_3)).trans hx198_3
            replace p198 := eq_true p198
            replace q198 := eq_true q198
            go_wp2_with (first | ((with_reducible refine look_callee (f := 18) rfl ?_); refine goesL_ (some 29) rfl rfl Tryd.func18 (by kernel_rfl) rfl #[.string a0, .agg #[.int .i64 ((rd_T26 l1 x9_1).f0), .int .i64 ((rd_T26 l1 x9_1).f1), .string ((rd_T26 l1 x9_1).f2), .string ((rd_T26 l1 x9_1).f3)]] rfl (by (try simp only [List.map_toArray, List.map_cons, List.map_nil]); first | done | rfl | (simp only [List.length_drop, List.length_take]; rfl)) ?_; (with_reducible refine (cartoucheref07_One.calls k1 a0 ((rd_T26 l1 x9_1).f0) ((rd_T26 l1 x9_1).f1) ((rd_T26 l1 x9_1).f2) ((rd_T26 l1 x9_1).f3) t199 t200 t201 t202 t203 _ A5.out).mono ?_); rintro e w30 ⟨rfl, hb⟩; refine ⟨_, rfl, ?_⟩; have n0_ := Aside0.mk (Kd.R_below (by (with_reducible repeat (first | apply Kd.R_alloc | apply Kd.R_drewN | apply Kd.R_drew)); exact HO_7.out) hb); have n1_ := Aside0.mk (Kd.R_below (by (with_reducible repeat (first | apply Kd.R_alloc | apply Kd.R_drewN | apply Kd.R_drew)); exact HO_8.out) hb); have n2_ := Aside0.mk (below_step (by repeat (first | (with_reducible first | exact HB.out | apply below_alloc | apply pw_below_drewN | apply below_drew1) | exact HB.out)) hb); clear HO_7; clear HO_8; clear HB; have HO_7 := n0_; have HO_8 := n1_; have HB := n2_; clear n0_ n1_ n2_; (try clear hb); (try clear hb2); (try clear hk); (try clear hi)) | ((with_reducible refine gate_dst (N := 10) rfl ?_); refine box_event ?hg (N := 10) ?hd (cs := #[.int .i64 0, .int .i64 0, .string (⟨#[]⟩ : ByteArray), .string (⟨#[]⟩ : ByteArray)]) (t := 26) ?hr ?_; (case hd => rfl); (case hg => rfl); (case hr => first | (go_simp; done) | (go_simp; rfl)); intro gb204 hg w31 hbox hb; have n0_ := Aside0.mk (Kd.R_below (by (with_reducible repeat (first | apply Kd.R_alloc | apply Kd.R_drewN | apply Kd.R_drew)); exact HO_7.out) hb); have n1_ := Aside0.mk (Kd.R_below (by (with_reducible repeat (first | apply Kd.R_alloc | apply Kd.R_drewN | apply Kd.R_drew)); exact HO_8.out) hb); have n2_ := Aside0.mk (below_step (by repeat (first | (with_reducible first | exact HB.out | apply below_alloc | apply pw_below_drewN | apply below_drew1) | exact HB.out)) hb); have n3_ := Aside0.mk (hbox); have n4_ := Aside0.mk ((by rw [hg]; exact (below_size (by repeat (first | (with_reducible first | exact HB.out | apply below_alloc | apply pw_below_drewN | apply below_drew1) | exact HB.out))) : w.heap.size ≤ gb204)); have n5_ := Aside0.mk ((by rw [hg]; exact (below_size (by repeat (first | (with_reducible first | exact HB.out | apply below_alloc | apply pw_below_drewN | apply below_drew1) | exact HB.out))) : w.heap.size ≤ gb204)); clear HO_7; clear HO_8; clear HB; have HO_7 := n0_; have HO_8 := n1_; have HB := n2_; have BK204 := n3_; have GW204 := n4_; have GE204 := n5_; clear n0_ n1_ n2_ n3_ n4_ n5_; clear hb hbox hg; have hcz32_0 : w31.cell? ⟨gb204, 0, none⟩ = some (.int .i64 0) := (blk_cell BK204.out 0).trans rfl; have hcz32_1 : w31.cell? ⟨gb204, 1, none⟩ = some (.int .i64 0) := (blk_cell BK204.out 1).trans rfl; have hcz32_2 : w31.cell? ⟨gb204, 2, none⟩ = some (.string (⟨#[]⟩ : ByteArray)) := (blk_cell BK204.out 2).trans rfl; have hcz32_3 : w31.cell? ⟨gb204, 3, none⟩ = some (.string (⟨#[]⟩ : ByteArray)) := (blk_cell BK204.out 3).trans rfl; have hfz32_0 := blk_frozen BK204.out 0; have hfz32_1 := blk_frozen BK204.out 1; have hfz32_2 := blk_frozen BK204.out 2; have hfz32_3 := blk_frozen BK204.out 3))
            go_ret3
            exact ⟨by first | rfl | (simp [errW_none, errW_some] <;> rfl) | (simp [*, errW_none, errW_some] <;> rfl) | (simp [bne]; done) | (simp [*, bne]; done), by repeat (first | (with_reducible first | exact HB.out | apply below_alloc | apply pw_below_drewN | apply below_drew1 | refine below_set ?_ GE204.out) | exact HB.out)⟩
        · rw [if_neg c4] at H
          exact absurd H (by simp)
      · rw [if_neg c3] at H
        have c3b0 : decide (x9_1 < (l1.length : Int)) = false := decide_eq_false c3
        clear c3
        replace H := Option.bind_eq_some_iff.mp H
        obtain ⟨⟨t228, t229, t230⟩, A330, H⟩ := H
        replace H : (if t230 = true then (some (t228, t229, true)) else ((cartoucheref07_twins.f k1 a0 x8_1).bind fun bt231 => (some (bt231.1, bt231.2.1, bt231.2.2)))) = some (r1, r2, r3) := H
        have A33 := Aside0.mk A330
        clear A330
        by_cases c34 : t230 = true
        · subst c34
          have H1 : (some (t228, t229, true)) = some (r1, r2, r3) := by rw [if_pos rfl] at H; exact H
          clear H
          have H := H1
          clear H1
          simp only [Option.some.injEq, Prod.mk.injEq] at H
          obtain ⟨rfl, rfl, rfl⟩ := H
          obtain ⟨Ao35, co35, eo35⟩ := Kd.R_slice HO_7.out
          subst eo35
          go_wp2_with (first | ((with_reducible refine look_callee (f := 39) rfl ?_); refine goesL_ (some 77) rfl rfl Tryd.func39 (by kernel_rfl) rfl #[.string a0, .slice Ao35 x7_1.length co35] rfl (by (try simp only [List.map_toArray, List.map_cons, List.map_nil]); first | done | rfl | (simp only [List.length_drop, List.length_take]; rfl)) ?_; (with_reducible refine (cartoucheref07_twins.calls k1 a0 _ _ x7_1 t228 t229 true _ ?side1 ?side2 A33.out).mono ?_); (case side1 => repeat (first | exact (Kd.R_reads' HO_7.out).2.2 | (with_reducible refine Kd.C_alloc ?_ _) | (with_reducible refine Kd.C_drewN ?_ _) | (with_reducible refine Kd.C_drew ?_))); (case side2 => exact (Kd.R_reads' HO_7.out).2.1); rintro e w36 ⟨rfl, hb⟩; refine ⟨_, rfl, ?_⟩; have n0_ := Aside0.mk (Kd.R_below (by (with_reducible repeat (first | apply Kd.R_alloc | apply Kd.R_drewN | apply Kd.R_drew)); exact HO_7.out) hb); have n1_ := Aside0.mk (Kd.R_below (by (with_reducible repeat (first | apply Kd.R_alloc | apply Kd.R_drewN | apply Kd.R_drew)); exact HO_8.out) hb); have n2_ := Aside0.mk (below_step (by repeat (first | (with_reducible first | exact HB.out | apply below_alloc | apply pw_below_drewN | apply below_drew1) | exact HB.out)) hb); clear HO_7; clear HO_8; clear HB; have HO_7 := n0_; have HO_8 := n1_; have HB := n2_; clear n0_ n1_ n2_; (try clear hb); (try clear hb2); (try clear hk); (try clear hi)))
          go_ret3
          exact ⟨by first | rfl | (simp [errW_none, errW_some] <;> rfl) | (simp [*, errW_none, errW_some] <;> rfl) | (simp [bne]; done) | (simp [*, bne]; done), by repeat (first | (with_reducible first | exact HB.out | apply below_alloc | apply pw_below_drewN | apply below_drew1) | exact HB.out)⟩
        · replace c34 := Bool.eq_false_iff.mpr c34
          subst c34
          have H1 : ((cartoucheref07_twins.f k1 a0 x8_1).bind fun bt231 => (some (bt231.1, bt231.2.1, bt231.2.2))) = some (r1, r2, r3) := by rw [if_neg (show ¬ (false = true) by decide)] at H; exact H
          clear H
          have H := H1
          clear H1
          replace H := Option.bind_eq_some_iff.mp H
          obtain ⟨⟨t231, t232, t233⟩, A370, H⟩ := H
          replace H : (some (t231, t232, t233)) = some (r1, r2, r3) := H
          have A37 := Aside0.mk A370
          clear A370
          simp only [Option.some.injEq, Prod.mk.injEq] at H
          obtain ⟨rfl, rfl, rfl⟩ := H
          obtain ⟨Ao38, co38, eo38⟩ := Kd.R_slice HO_7.out
          subst eo38
          go_wp2_with (first | ((with_reducible refine look_callee (f := 39) rfl ?_); refine goesL_ (some 77) rfl rfl Tryd.func39 (by kernel_rfl) rfl #[.string a0, .slice Ao38 x7_1.length co38] rfl (by (try simp only [List.map_toArray, List.map_cons, List.map_nil]); first | done | rfl | (simp only [List.length_drop, List.length_take]; rfl)) ?_; (with_reducible refine (cartoucheref07_twins.calls k1 a0 _ _ x7_1 t228 t229 false _ ?side1 ?side2 A33.out).mono ?_); (case side1 => repeat (first | exact (Kd.R_reads' HO_7.out).2.2 | (with_reducible refine Kd.C_alloc ?_ _) | (with_reducible refine Kd.C_drewN ?_ _) | (with_reducible refine Kd.C_drew ?_))); (case side2 => exact (Kd.R_reads' HO_7.out).2.1); rintro e w39 ⟨rfl, hb⟩; refine ⟨_, rfl, ?_⟩; have n0_ := Aside0.mk (Kd.R_below (by (with_reducible repeat (first | apply Kd.R_alloc | apply Kd.R_drewN | apply Kd.R_drew)); exact HO_7.out) hb); have n1_ := Aside0.mk (Kd.R_below (by (with_reducible repeat (first | apply Kd.R_alloc | apply Kd.R_drewN | apply Kd.R_drew)); exact HO_8.out) hb); have n2_ := Aside0.mk (below_step (by repeat (first | (with_reducible first | exact HB.out | apply below_alloc | apply pw_below_drewN | apply below_drew1) | exact HB.out)) hb); clear HO_7; clear HO_8; clear HB; have HO_7 := n0_; have HO_8 := n1_; have HB := n2_; clear n0_ n1_ n2_; (try clear hb); (try clear hb2); (try clear hk); (try clear hi); obtain ⟨Ao40, co40, eo40⟩ := Kd.R_slice HO_8.out; subst eo40) | ((with_reducible refine look_callee (f := 39) rfl ?_); refine goesL_ (some 86) rfl rfl Tryd.func39 (by kernel_rfl) rfl #[.string a0, .slice Ao40 x8_1.length co40] rfl (by (try simp only [List.map_toArray, List.map_cons, List.map_nil]); first | done | rfl | (simp only [List.length_drop, List.length_take]; rfl)) ?_; (with_reducible refine (cartoucheref07_twins.calls k1 a0 _ _ x8_1 t231 t232 t233 _ ?side1 ?side2 A37.out).mono ?_); (case side1 => repeat (first | exact (Kd.R_reads' HO_8.out).2.2 | (with_reducible refine Kd.C_alloc ?_ _) | (with_reducible refine Kd.C_drewN ?_ _) | (with_reducible refine Kd.C_drew ?_))); (case side2 => exact (Kd.R_reads' HO_8.out).2.1); rintro e w41 ⟨rfl, hb⟩; refine ⟨_, rfl, ?_⟩; have n0_ := Aside0.mk (Kd.R_below (by (with_reducible repeat (first | apply Kd.R_alloc | apply Kd.R_drewN | apply Kd.R_drew)); exact HO_7.out) hb); have n1_ := Aside0.mk (Kd.R_below (by (with_reducible repeat (first | apply Kd.R_alloc | apply Kd.R_drewN | apply Kd.R_drew)); exact HO_8.out) hb); have n2_ := Aside0.mk (below_step (by repeat (first | (with_reducible first | exact HB.out | apply below_alloc | apply pw_below_drewN | apply below_drew1) | exact HB.out)) hb); clear HO_7; clear HO_8; clear HB; have HO_7 := n0_; have HO_8 := n1_; have HB := n2_; clear n0_ n1_ n2_; (try clear hb); (try clear hb2); (try clear hk); (try clear hi)))
          go_ret3
          exact ⟨by first | rfl | (simp [errW_none, errW_some] <;> rfl) | (simp [*, errW_none, errW_some] <;> rfl) | (simp [bne]; done) | (simp [*, bne]; done), by repeat (first | (with_reducible first | exact HB.out | apply below_alloc | apply pw_below_drewN | apply below_drew1) | exact HB.out)⟩

-- NOT PRINTED: function 8 (cartouchelaw07_RedactRows)

end Go.Proofs.YtbckobokiioeaaaDoor.Q
