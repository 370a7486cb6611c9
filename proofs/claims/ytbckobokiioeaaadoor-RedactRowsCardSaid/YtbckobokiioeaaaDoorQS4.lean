-- Written by pp.py and splitq.py, programs of the session, with the kit's print. Not trusted: Lean checks it.
import Derived.Test.YtbckobokiioeaaaDoorQS3
namespace Go.Proofs.YtbckobokiioeaaaDoor.Q
open Go.RowKit Go.Proofs.YtbckobokiioeaaaDoorW.PrintWords Go.Proofs.YtbckobokiioeaaaDoorW.PrintLast
set_option linter.unusedVariables false
set_option linter.unusedSimpArgs false

attribute [local go_sem high] eqA26

/-! ### cartoucheref07_Shape: function 22 -/
mutual
def cartoucheref07_Shape.l0 : Nat → List (S26) → List (S26) → Int → Option ((List (S26)))
  | 0, _, _, _ => none
  | k + 1, x0, x3, x4 => if x4 < (x0.length : Int) then (if 0 ≤ x4 then (if ((rd_T26 x0 x4).f2).toList = ([] : List UInt8) then (cartoucheref07_Shape.j2 k x0 x3 x4 ((rd_T26 x0 x4).f0) ((rd_T26 x0 x4).f1) ((rd_T26 x0 x4).f2) ((rd_T26 x0 x4).f3)) else (cartoucheref07_Shape.l1 k x0 x3 x4 0 ((rd_T26 x0 x4).f0) ((rd_T26 x0 x4).f1) ((rd_T26 x0 x4).f2) ((rd_T26 x0 x4).f3))) else (none)) else (some x3)
def cartoucheref07_Shape.j2 : Nat → List (S26) → List (S26) → Int → Int → Int → ByteArray → ByteArray → Option ((List (S26)))
  | 0, _, _, _, _, _, _, _ => none
  | k + 1, x0, x3, x4, x167000, x167001, x167002, x167003 => if x167003.toList = ([] : List UInt8) then (if x3.length < 2932031007402 then (cartoucheref07_Shape.l0 k x0 (x3 ++ [(⟨x167000, x167001, x167002, x167003⟩ : S26)]) (wrap64 (x4 + 1))) else (none)) else (cartoucheref07_Shape.l2 k x0 x3 x4 0 x167000 x167001 x167002 x167003)
def cartoucheref07_Shape.l2 : Nat → List (S26) → List (S26) → Int → Int → Int → Int → ByteArray → ByteArray → Option ((List (S26)))
  | 0, _, _, _, _, _, _, _, _ => none
  | k + 1, x0, x3, x4, x7, x167000, x167001, x167002, x167003 => if 0 ≤ x7 then (if x7 < (x0.length : Int) then (if 0 ≤ x4 then (if x4 < (x0.length : Int) then (if ((rd_T26 x0 x7).f3).toList = ((rd_T26 x0 x4).f3).toList then ((cartoucheref07_figures.f k x7).bind fun t174 => (if 1 + t174.size ≤ 9223372036854775807 then (if x3.length < 2932031007402 then (cartoucheref07_Shape.l0 k x0 (x3 ++ [(⟨x167000, x167001, x167002, (⟨#[118]⟩ : ByteArray) ++ t174⟩ : S26)]) (wrap64 (x4 + 1))) else (none)) else (none))) else (cartoucheref07_Shape.l2 k x0 x3 x4 (wrap64 (x7 + 1)) x167000 x167001 x167002 x167003)) else (none)) else (none)) else (none)) else (none)
def cartoucheref07_Shape.l1 : Nat → List (S26) → List (S26) → Int → Int → Int → Int → ByteArray → ByteArray → Option ((List (S26)))
  | 0, _, _, _, _, _, _, _, _ => none
  | k + 1, x0, x3, x4, x6, x167000, x167001, x167002, x167003 => if 0 ≤ x6 then (if x6 < (x0.length : Int) then (if ((rd_T26 x0 x6).f2).toList = x167002.toList then ((cartoucheref07_figures.f k x6).bind fun t168 => (if 1 + t168.size ≤ 9223372036854775807 then (cartoucheref07_Shape.j2 k x0 x3 x4 x167000 x167001 ((⟨#[107]⟩ : ByteArray) ++ t168) x167003) else (none))) else (cartoucheref07_Shape.l1 k x0 x3 x4 (wrap64 (x6 + 1)) x167000 x167001 x167002 x167003)) else (none)) else (none)
end
def cartoucheref07_Shape.f (k : Nat) (l0 : List (S26)) : Option ((List (S26))) := cartoucheref07_Shape.l0 k l0 ([] : List (S26)) 0
theorem cartoucheref07_Shape.mono_l : ∀ k, (∀ y0 y1 y2, LeO (cartoucheref07_Shape.l0 k y0 y1 y2) (cartoucheref07_Shape.l0 (k + 1) y0 y1 y2)) ∧ (∀ y0 y1 y2 y3 y4 y5 y6, LeO (cartoucheref07_Shape.j2 k y0 y1 y2 y3 y4 y5 y6) (cartoucheref07_Shape.j2 (k + 1) y0 y1 y2 y3 y4 y5 y6)) ∧ (∀ y0 y1 y2 y3 y4 y5 y6 y7, LeO (cartoucheref07_Shape.l2 k y0 y1 y2 y3 y4 y5 y6 y7) (cartoucheref07_Shape.l2 (k + 1) y0 y1 y2 y3 y4 y5 y6 y7)) ∧ (∀ y0 y1 y2 y3 y4 y5 y6 y7, LeO (cartoucheref07_Shape.l1 k y0 y1 y2 y3 y4 y5 y6 y7) (cartoucheref07_Shape.l1 (k + 1) y0 y1 y2 y3 y4 y5 y6 y7))
  | 0 => ⟨fun _ _ _ r h => by simp [cartoucheref07_Shape.l0] at h, fun _ _ _ _ _ _ _ r h => by simp [cartoucheref07_Shape.j2] at h, fun _ _ _ _ _ _ _ _ r h => by simp [cartoucheref07_Shape.l2] at h, fun _ _ _ _ _ _ _ _ r h => by simp [cartoucheref07_Shape.l1] at h⟩
  | k + 1 => by
    obtain ⟨ih0, ih1, ih2, ih3⟩ := cartoucheref07_Shape.mono_l k
    refine ⟨?_, ?_, ?_, ?_⟩
    · intro y0 y1 y2
      unfold cartoucheref07_Shape.l0
      repeat' first
      | (with_reducible exact ih0 _ _ _)
      | (with_reducible exact ih1 _ _ _ _ _ _ _)
      | (with_reducible exact ih2 _ _ _ _ _ _ _ _)
      | (with_reducible exact ih3 _ _ _ _ _ _ _ _)
      | (with_reducible exact cartoucheref07_figures.mono _ _)
      | (with_reducible exact LeO.refl _)
      | (with_reducible exact LeO.none _)
      | (with_reducible refine LeO.ite ?_ ?_)
      | (with_reducible refine LeO.bind ?_ (fun _ => ?_))
      | exact ih0 _ _ _
      | exact ih1 _ _ _ _ _ _ _
      | exact ih2 _ _ _ _ _ _ _ _
      | exact ih3 _ _ _ _ _ _ _ _
      | exact cartoucheref07_figures.mono _ _
      | exact LeO.none _
      | refine LeO.ite ?_ ?_
      | refine LeO.bind ?_ (fun _ => ?_)
    · intro y0 y1 y2 y3 y4 y5 y6
      unfold cartoucheref07_Shape.j2
      repeat' first
      | (with_reducible exact ih0 _ _ _)
      | (with_reducible exact ih1 _ _ _ _ _ _ _)
      | (with_reducible exact ih2 _ _ _ _ _ _ _ _)
      | (with_reducible exact ih3 _ _ _ _ _ _ _ _)
      | (with_reducible exact cartoucheref07_figures.mono _ _)
      | (with_reducible exact LeO.refl _)
      | (with_reducible exact LeO.none _)
      | (with_reducible refine LeO.ite ?_ ?_)
      | (with_reducible refine LeO.bind ?_ (fun _ => ?_))
      | exact ih0 _ _ _
      | exact ih1 _ _ _ _ _ _ _
      | exact ih2 _ _ _ _ _ _ _ _
      | exact ih3 _ _ _ _ _ _ _ _
      | exact cartoucheref07_figures.mono _ _
      | exact LeO.none _
      | refine LeO.ite ?_ ?_
      | refine LeO.bind ?_ (fun _ => ?_)
    · intro y0 y1 y2 y3 y4 y5 y6 y7
      unfold cartoucheref07_Shape.l2
      repeat' first
      | (with_reducible exact ih0 _ _ _)
      | (with_reducible exact ih1 _ _ _ _ _ _ _)
      | (with_reducible exact ih2 _ _ _ _ _ _ _ _)
      | (with_reducible exact ih3 _ _ _ _ _ _ _ _)
      | (with_reducible exact cartoucheref07_figures.mono _ _)
      | (with_reducible exact LeO.refl _)
      | (with_reducible exact LeO.none _)
      | (with_reducible refine LeO.ite ?_ ?_)
      | (with_reducible refine LeO.bind ?_ (fun _ => ?_))
      | exact ih0 _ _ _
      | exact ih1 _ _ _ _ _ _ _
      | exact ih2 _ _ _ _ _ _ _ _
      | exact ih3 _ _ _ _ _ _ _ _
      | exact cartoucheref07_figures.mono _ _
      | exact LeO.none _
      | refine LeO.ite ?_ ?_
      | refine LeO.bind ?_ (fun _ => ?_)
    · intro y0 y1 y2 y3 y4 y5 y6 y7
      unfold cartoucheref07_Shape.l1
      repeat' first
      | (with_reducible exact ih0 _ _ _)
      | (with_reducible exact ih1 _ _ _ _ _ _ _)
      | (with_reducible exact ih2 _ _ _ _ _ _ _ _)
      | (with_reducible exact ih3 _ _ _ _ _ _ _ _)
      | (with_reducible exact cartoucheref07_figures.mono _ _)
      | (with_reducible exact LeO.refl _)
      | (with_reducible exact LeO.none _)
      | (with_reducible refine LeO.ite ?_ ?_)
      | (with_reducible refine LeO.bind ?_ (fun _ => ?_))
      | exact ih0 _ _ _
      | exact ih1 _ _ _ _ _ _ _
      | exact ih2 _ _ _ _ _ _ _ _
      | exact ih3 _ _ _ _ _ _ _ _
      | exact cartoucheref07_figures.mono _ _
      | exact LeO.none _
      | refine LeO.ite ?_ ?_
      | refine LeO.bind ?_ (fun _ => ?_)
theorem cartoucheref07_Shape.mono : ∀ a0 k, LeO (cartoucheref07_Shape.f k a0) (cartoucheref07_Shape.f (k + 1) a0) := by
  intro a0 k
  obtain ⟨ih0, ih1, ih2, ih3⟩ := cartoucheref07_Shape.mono_l k
  unfold cartoucheref07_Shape.f
  repeat' first
      | (with_reducible exact ih0 _ _ _)
      | (with_reducible exact ih1 _ _ _ _ _ _ _)
      | (with_reducible exact ih2 _ _ _ _ _ _ _ _)
      | (with_reducible exact ih3 _ _ _ _ _ _ _ _)
      | (with_reducible exact cartoucheref07_figures.mono _ _)
      | (with_reducible exact LeO.refl _)
      | (with_reducible exact LeO.none _)
      | (with_reducible refine LeO.ite ?_ ?_)
      | (with_reducible refine LeO.bind ?_ (fun _ => ?_))
      | exact ih0 _ _ _
      | exact ih1 _ _ _ _ _ _ _
      | exact ih2 _ _ _ _ _ _ _ _
      | exact ih3 _ _ _ _ _ _ _ _
      | exact cartoucheref07_figures.mono _ _
      | exact LeO.none _
      | refine LeO.ite ?_ ?_
      | refine LeO.bind ?_ (fun _ => ?_)
set_option maxHeartbeats 8000000 in
set_option maxRecDepth 100000 in
theorem cartoucheref07_Shape.calls (k : Nat) (A0 : Option Addr) (c0 : Nat) (l0 : List (S26)) (r : List (S26)) (w : World) (hr0 : Kd.C k26 w A0 l0.length l0) (hc0 : l0.length ≤ c0) (h : cartoucheref07_Shape.f k l0 = some r) :
    Calls Tryd.prog 22 #[.slice A0 l0.length c0] w fun e w' => ∃ v0_ : Value, e = .returned (v0_) ∧ Kd.R k26 26 w' w.heap.size (fun _ => True) v0_ r ∧ Below w.heap.size w w' := by
  have hu26 := Tryd.underlying26
  have HR0 := Aside0.mk hr0
  have HC0 := Aside0.mk hc0
  clear hr0 hc0
  have HB := Aside0.mk (Below.refl w.heap.size w)
  have H : (cartoucheref07_Shape.l0 k l0 ([] : List (S26)) 0) = some r := h
  clear h
  have H' := Aside0.mk H
  clear H
  go_enter Tryd.func22, Tryd.ntmps22
  go_wp2
  repeat (go_quiet (fail); try go_wp2)
  go_loopg [3, 4] k (fun kq v3 v4 w' => ∃ (x3_1 : List (S26)) (x4_1 : Int), v4 = .int .i64 x4_1 ∧ Aside0 (cartoucheref07_Shape.l0 kq l0 x3_1 x4_1 = some r) ∧ Aside0 (kq ≤ k) ∧ Aside0 (Kd.R k26 26 w' w.heap.size (fun _ => True) v3 x3_1) ∧ Aside0 (Below w.heap.size w w'))
  case atStart => exact ⟨(([] : List (S26))), (0), (by first | rfl | (simp; done) | (simp [*]; done)), H', ⟨Nat.le_refl _⟩, ⟨by first | exact Kd.R_nil _ _ _ _ _ | exact Kd.N_nil _ _ _ _ _ | exact Kd.V_nil _ _ _ _ _ | exact Kd.Q_nil _ _ _ _ _ | exact Kd.S_nil _ _ _ _ _⟩, ⟨by repeat (first | (with_reducible first | exact HB.out | apply below_alloc | apply pw_below_drewN | apply below_drew1) | exact HB.out)⟩⟩
  case round =>
    clear H'
    obtain ⟨x3_1, x4_1, rfl, HA, HK1, HO_3, HB⟩ := hrel
    cases gk with
    | zero => exact absurd HA.out (by simp [cartoucheref07_Shape.l0])
    | succ k1 =>
      have H := HA.out
      clear HA
      simp only [cartoucheref07_Shape.l0] at H
      by_cases c2 : x4_1 < (l0.length : Int)
      · rw [if_pos c2] at H
        have c2b0 : decide (x4_1 < (l0.length : Int)) = true := decide_eq_true c2
        clear c2
        by_cases c3 : 0 ≤ x4_1
        · rw [if_pos c3] at H
          have c3b0 : decide (0 ≤ x4_1) = true := decide_eq_true c3
          clear c3
          have HC4 := Aside0.mk H
          clear H
          have p165 : 0 ≤ (x4_1 : Int) := of_decide_eq_true (by first | (with_reducible assumption) | assumption)
          have q165 : x4_1 < (l0.length : Int) := of_decide_eq_true (by first | (with_reducible assumption) | assumption)
          obtain ⟨ad165, e165, hx165_0, hx165_1, hx165_2, hx165_3⟩ := at_T26 HR0.out x4_1 p165 q165
          cases e165
          replace hx165_0 := (HB.out.cell (World.block_lt_of_cell? w _ hx165_0)).trans hx165_0
          replace hx165_1 := (HB.out.cell (World.block_lt_of_cell? w _ hx165_1)).trans hx165_1
          replace hx165_2 := (HB.out.cell (World.block_lt_of_cell? w _ hx165_2)).trans hx165_2
          replace hx165_3 := (HB.out.cell (World.block_lt_of_cell? w _ hx165_3)).trans hx165_3
          replace p165 := eq_true p165
          replace q165 := eq_true q165
          go_upto_if 20 with (first | ((with_reducible refine gate_dst (N := 5) rfl ?_); refine box_event ?hg (N := 5) ?hd (cs := #[.int .i64 0, .int .i64 0, .string (⟨#[]⟩ : ByteArray), .string (⟨#[]⟩ : ByteArray)]) (t := 26) ?hr ?_; (case hd => rfl); (case hg => rfl); (case hr => first | (go_simp; done) | (go_simp; rfl)); intro gb166 hg w5 hbox hb; have n0_ := Aside0.mk (Kd.R_below (Kd.R_elderB (by (with_reducible repeat (first | apply Kd.R_alloc | apply Kd.R_drewN | apply Kd.R_drew)); exact HO_3.out) gb166 (Nat.le_of_eq hg.symm)) hb); have n1_ := Aside0.mk (below_step (by repeat (first | (with_reducible first | exact HB.out | apply below_alloc | apply pw_below_drewN | apply below_drew1) | exact HB.out)) hb); have n2_ := Aside0.mk (hbox); have n3_ := Aside0.mk ((by rw [hg]; exact (below_size (by repeat (first | (with_reducible first | exact HB.out | apply below_alloc | apply pw_below_drewN | apply below_drew1) | exact HB.out))) : w.heap.size ≤ gb166)); have n4_ := Aside0.mk ((by rw [hg]; exact (below_size (by repeat (first | (with_reducible first | exact HB.out | apply below_alloc | apply pw_below_drewN | apply below_drew1) | exact HB.out))) : w.heap.size ≤ gb166)); clear HO_3; clear HB; have HO_3 := n0_; have HB := n1_; have BK166 := n2_; have GW166 := n3_; have GE166 := n4_; clear n0_ n1_ n2_ n3_ n4_; clear hb hbox hg; have hcz6_0 : w5.cell? ⟨gb166, 0, none⟩ = some (.int .i64 0) := (blk_cell BK166.out 0).trans rfl; have hcz6_1 : w5.cell? ⟨gb166, 1, none⟩ = some (.int .i64 0) := (blk_cell BK166.out 1).trans rfl; have hcz6_2 : w5.cell? ⟨gb166, 2, none⟩ = some (.string (⟨#[]⟩ : ByteArray)) := (blk_cell BK166.out 2).trans rfl; have hcz6_3 : w5.cell? ⟨gb166, 3, none⟩ = some (.string (⟨#[]⟩ : ByteArray)) := (blk_cell BK166.out 3).trans rfl; have hfz6_0 := blk_frozen BK166.out 0; have hfz6_1 := blk_frozen BK166.out 1; have hfz6_2 := blk_frozen BK166.out 2; have hfz6_3 := blk_frozen BK166.out 3))
          repeat (go_quiet (first | ((with_reducible refine gate_dst (N := 5) rfl ?_); refine box_event ?hg (N := 5) ?hd (cs := #[.int .i64 0, .int .i64 0, .string (⟨#[]⟩ : ByteArray), .string (⟨#[]⟩ : ByteArray)]) (t := 26) ?hr ?_; (case hd => rfl); (case hg => rfl); (case hr => first | (go_simp; done) | (go_simp; rfl)); intro gb166 hg w5 hbox hb; have n0_ := Aside0.mk (Kd.R_below (Kd.R_elderB (by (with_reducible repeat (first | apply Kd.R_alloc | apply Kd.R_drewN | apply Kd.R_drew)); exact HO_3.out) gb166 (Nat.le_of_eq hg.symm)) hb); have n1_ := Aside0.mk (below_step (by repeat (first | (with_reducible first | exact HB.out | apply below_alloc | apply pw_below_drewN | apply below_drew1) | exact HB.out)) hb); have n2_ := Aside0.mk (hbox); have n3_ := Aside0.mk ((by rw [hg]; exact (below_size (by repeat (first | (with_reducible first | exact HB.out | apply below_alloc | apply pw_below_drewN | apply below_drew1) | exact HB.out))) : w.heap.size ≤ gb166)); have n4_ := Aside0.mk ((by rw [hg]; exact (below_size (by repeat (first | (with_reducible first | exact HB.out | apply below_alloc | apply pw_below_drewN | apply below_drew1) | exact HB.out))) : w.heap.size ≤ gb166)); clear HO_3; clear HB; have HO_3 := n0_; have HB := n1_; have BK166 := n2_; have GW166 := n3_; have GE166 := n4_; clear n0_ n1_ n2_ n3_ n4_; clear hb hbox hg; have hcz6_0 : w5.cell? ⟨gb166, 0, none⟩ = some (.int .i64 0) := (blk_cell BK166.out 0).trans rfl; have hcz6_1 : w5.cell? ⟨gb166, 1, none⟩ = some (.int .i64 0) := (blk_cell BK166.out 1).trans rfl; have hcz6_2 : w5.cell? ⟨gb166, 2, none⟩ = some (.string (⟨#[]⟩ : ByteArray)) := (blk_cell BK166.out 2).trans rfl; have hcz6_3 : w5.cell? ⟨gb166, 3, none⟩ = some (.string (⟨#[]⟩ : ByteArray)) := (blk_cell BK166.out 3).trans rfl; have hfz6_0 := blk_frozen BK166.out 0; have hfz6_1 := blk_frozen BK166.out 1; have hfz6_2 := blk_frozen BK166.out 2; have hfz6_3 := blk_frozen BK166.out 3)); go_upto_if 20 with (first | ((with_reducible refine gate_dst (N := 5) rfl ?_); refine box_event ?hg (N := 5) ?hd (cs := #[.int .i64 0, .int .i64 0, .string (⟨#[]⟩ : ByteArray), .string (⟨#[]⟩ : ByteArray)]) (t := 26) ?hr ?_; (case hd => rfl); (case hg => rfl); (case hr => first | (go_simp; done) | (go_simp; rfl)); intro gb166 hg w5 hbox hb; have n0_ := Aside0.mk (Kd.R_below (Kd.R_elderB (by (with_reducible repeat (first | apply Kd.R_alloc | apply Kd.R_drewN | apply Kd.R_drew)); exact HO_3.out) gb166 (Nat.le_of_eq hg.symm)) hb); have n1_ := Aside0.mk (below_step (by repeat (first | (with_reducible first | exact HB.out | apply below_alloc | apply pw_below_drewN | apply below_drew1) | exact HB.out)) hb); have n2_ := Aside0.mk (hbox); have n3_ := Aside0.mk ((by rw [hg]; exact (below_size (by repeat (first | (with_reducible first | exact HB.out | apply below_alloc | apply pw_below_drewN | apply below_drew1) | exact HB.out))) : w.heap.size ≤ gb166)); have n4_ := Aside0.mk ((by rw [hg]; exact (below_size (by repeat (first | (with_reducible first | exact HB.out | apply below_alloc | apply pw_below_drewN | apply below_drew1) | exact HB.out))) : w.heap.size ≤ gb166)); clear HO_3; clear HB; have HO_3 := n0_; have HB := n1_; have BK166 := n2_; have GW166 := n3_; have GE166 := n4_; clear n0_ n1_ n2_ n3_ n4_; clear hb hbox hg; have hcz6_0 : w5.cell? ⟨gb166, 0, none⟩ = some (.int .i64 0) := (blk_cell BK166.out 0).trans rfl; have hcz6_1 : w5.cell? ⟨gb166, 1, none⟩ = some (.int .i64 0) := (blk_cell BK166.out 1).trans rfl; have hcz6_2 : w5.cell? ⟨gb166, 2, none⟩ = some (.string (⟨#[]⟩ : ByteArray)) := (blk_cell BK166.out 2).trans rfl; have hcz6_3 : w5.cell? ⟨gb166, 3, none⟩ = some (.string (⟨#[]⟩ : ByteArray)) := (blk_cell BK166.out 3).trans rfl; have hfz6_0 := blk_frozen BK166.out 0; have hfz6_1 := blk_frozen BK166.out 1; have hfz6_2 := blk_frozen BK166.out 2; have hfz6_3 := blk_frozen BK166.out 3)))
          (try simp only [Act.put, List.setIfInBounds_toArray, List.set_cons_zero, List.set_cons_succ])
          go_cut [] (fun wc => ∃ (kq : Nat) (x167002_3 : ByteArray), Aside0 (cartoucheref07_Shape.j2 kq l0 x3_1 x4_1 ((rd_T26 l0 x4_1).f0) ((rd_T26 l0 x4_1).f1) x167002_3 ((rd_T26 l0 x4_1).f3) = some r) ∧ Aside0 (kq ≤ k1) ∧ Aside0 (Kd.R k26 26 wc w.heap.size (fun k_ => k_ ≠ gb166) u3 x3_1) ∧ Aside0 (wc.heap[gb166]? = some (.cells #[.int .i64 ((rd_T26 l0 x4_1).f0), .int .i64 ((rd_T26 l0 x4_1).f1), .string x167002_3, .string ((rd_T26 l0 x4_1).f3)] 26 (0, 0))) ∧ Aside0 (Below w.heap.size w wc))
          case first =>
            have H := HC4.out
            clear HC4
            by_cases c7 : ((rd_T26 l0 x4_1).f2).toList = ([] : List UInt8)
            · rw [if_pos c7] at H
              have c7b0 : (((rd_T26 l0 x4_1).f2).toList == ([] : List UInt8)) = true := beq_iff_eq.mpr c7
              have c7b2 : (((rd_T26 l0 x4_1).f2).toList).isEmpty = true := List.isEmpty_iff.mpr c7
              have c7b1 : (((rd_T26 l0 x4_1).f2).toList != ([] : List UInt8)) = false := bne_eq_false_iff_eq.mpr c7
              clear c7
              (first | rw [c7b0] | rw [c7b2] | (simp only [i64_w, i32_w]; rw [c7b0]) | skip)
              have H' := Aside0.mk H
              clear H
              go_wp2
              repeat (go_quiet (fail); try go_wp2)
              go_meet
              case rel => exact ⟨_, ((rd_T26 l0 x4_1).f2), H', ⟨by have := HK1.out; first | omega | exact Nat.le_refl _⟩, ⟨by (with_reducible repeat (first | apply Kd.R_alloc | apply Kd.R_drewN | apply Kd.R_drew)); exact Kd.R_mono (Kd.R_far (p := ⟨gb166, 3, none⟩) (Kd.R_far (p := ⟨gb166, 2, none⟩) (Kd.R_far (p := ⟨gb166, 1, none⟩) (Kd.R_far (p := ⟨gb166, 0, none⟩) (Kd.R_mono HO_3.out (fun k_ hk => (⟨hk, hk.2⟩ : _ ∧ k_ ≠ gb166))) (fun _ hk => hk.2) (.int .i64 ((rd_T26 l0 x4_1).f0))) (fun _ hk => hk.2) (.int .i64 ((rd_T26 l0 x4_1).f1))) (fun _ hk => hk.2) (.string ((rd_T26 l0 x4_1).f2))) (fun _ hk => hk.2) (.string ((rd_T26 l0 x4_1).f3))) (fun _ hk => hk.1.2)⟩, ⟨by (with_reducible repeat (first | refine blk_drewN ?_ _ | refine blk_drew ?_ | refine blk_alloc ?_ _)); refine blk_put (cs := #[.int .i64 ((rd_T26 l0 x4_1).f0), .int .i64 ((rd_T26 l0 x4_1).f1), .string ((rd_T26 l0 x4_1).f2), .string (⟨#[]⟩ : ByteArray)]) ?_ 3 _ rfl; (with_reducible repeat (first | refine blk_drewN ?_ _ | refine blk_drew ?_ | refine blk_alloc ?_ _)); refine blk_put (cs := #[.int .i64 ((rd_T26 l0 x4_1).f0), .int .i64 ((rd_T26 l0 x4_1).f1), .string (⟨#[]⟩ : ByteArray), .string (⟨#[]⟩ : ByteArray)]) ?_ 2 _ rfl; (with_reducible repeat (first | refine blk_drewN ?_ _ | refine blk_drew ?_ | refine blk_alloc ?_ _)); refine blk_put (cs := #[.int .i64 ((rd_T26 l0 x4_1).f0), .int .i64 0, .string (⟨#[]⟩ : ByteArray), .string (⟨#[]⟩ : ByteArray)]) ?_ 1 _ rfl; (with_reducible repeat (first | refine blk_drewN ?_ _ | refine blk_drew ?_ | refine blk_alloc ?_ _)); refine blk_put (cs := #[.int .i64 0, .int .i64 0, .string (⟨#[]⟩ : ByteArray), .string (⟨#[]⟩ : ByteArray)]) ?_ 0 _ rfl; (with_reducible repeat (first | refine blk_drewN ?_ _ | refine blk_drew ?_ | refine blk_alloc ?_ _)); exact BK166.out⟩, ⟨by repeat (first | (with_reducible first | exact HB.out | apply below_alloc | apply pw_below_drewN | apply below_drew1 | refine below_set ?_ GE166.out) | exact HB.out)⟩⟩
            · rw [if_neg c7] at H
              have c7b0 : (((rd_T26 l0 x4_1).f2).toList == ([] : List UInt8)) = false := beq_eq_false_iff_ne.mpr c7
              have c7b2 : (((rd_T26 l0 x4_1).f2).toList).isEmpty = false := (by rw [← Bool.not_eq_true, List.isEmpty_iff]; exact c7)
              have c7b1 : (((rd_T26 l0 x4_1).f2).toList != ([] : List UInt8)) = true := bne_iff_ne.mpr c7
              (first | rw [c7b0] | rw [c7b2] | (simp only [i64_w, i32_w]; rw [c7b0]) | skip)
              have H' := Aside0.mk H
              clear H
              go_wp2
              repeat (go_quiet (fail); try go_wp2)
              go_loopg [6] k1 (fun kq v6 w' => ∃ (x6_2 : Int), v6 = .int .i64 x6_2 ∧ Aside0 (cartoucheref07_Shape.l1 kq l0 x3_1 x4_1 x6_2 ((rd_T26 l0 x4_1).f0) ((rd_T26 l0 x4_1).f1) ((rd_T26 l0 x4_1).f2) ((rd_T26 l0 x4_1).f3) = some r) ∧ Aside0 (kq ≤ k1) ∧ Aside0 (Kd.R k26 26 w' w.heap.size (fun k_ => k_ ≠ gb166) u3 x3_1) ∧ Aside0 (w'.heap[gb166]? = some (.cells #[.int .i64 ((rd_T26 l0 x4_1).f0), .int .i64 ((rd_T26 l0 x4_1).f1), .string ((rd_T26 l0 x4_1).f2), .string ((rd_T26 l0 x4_1).f3)] 26 (0, 0))) ∧ Aside0 (Below w.heap.size w w'))
              case atStart => exact ⟨(0), (by first | rfl | (simp; done) | (simp [*]; done)), H', ⟨Nat.le_refl _⟩, ⟨by (with_reducible repeat (first | apply Kd.R_alloc | apply Kd.R_drewN | apply Kd.R_drew)); exact Kd.R_mono (Kd.R_far (p := ⟨gb166, 3, none⟩) (Kd.R_far (p := ⟨gb166, 2, none⟩) (Kd.R_far (p := ⟨gb166, 1, none⟩) (Kd.R_far (p := ⟨gb166, 0, none⟩) (Kd.R_mono HO_3.out (fun k_ hk => (⟨hk, hk.2⟩ : _ ∧ k_ ≠ gb166))) (fun _ hk => hk.2) (.int .i64 ((rd_T26 l0 x4_1).f0))) (fun _ hk => hk.2) (.int .i64 ((rd_T26 l0 x4_1).f1))) (fun _ hk => hk.2) (.string ((rd_T26 l0 x4_1).f2))) (fun _ hk => hk.2) (.string ((rd_T26 l0 x4_1).f3))) (fun _ hk => hk.1.2)⟩, ⟨by (with_reducible repeat (first | refine blk_drewN ?_ _ | refine blk_drew ?_ | refine blk_alloc ?_ _)); refine blk_put (cs := #[.int .i64 ((rd_T26 l0 x4_1).f0), .int .i64 ((rd_T26 l0 x4_1).f1), .string ((rd_T26 l0 x4_1).f2), .string (⟨#[]⟩ : ByteArray)]) ?_ 3 _ rfl; (with_reducible repeat (first | refine blk_drewN ?_ _ | refine blk_drew ?_ | refine blk_alloc ?_ _)); refine blk_put (cs := #[.int .i64 ((rd_T26 l0 x4_1).f0), .int .i64 ((rd_T26 l0 x4_1).f1), .string (⟨#[]⟩ : ByteArray), .string (⟨#[]⟩ : ByteArray)]) ?_ 2 _ rfl; (with_reducible repeat (first | refine blk_drewN ?_ _ | refine blk_drew ?_ | refine blk_alloc ?_ _)); refine blk_put (cs := #[.int .i64 ((rd_T26 l0 x4_1).f0), .int .i64 0, .string (⟨#[]⟩ : ByteArray), .string (⟨#[]⟩ : ByteArray)]) ?_ 1 _ rfl; (with_reducible repeat (first | refine blk_drewN ?_ _ | refine blk_drew ?_ | refine blk_alloc ?_ _)); refine blk_put (cs := #[.int .i64 0, .int .i64 0, .string (⟨#[]⟩ : ByteArray), .string (⟨#[]⟩ : ByteArray)]) ?_ 0 _ rfl; (with_reducible repeat (first | refine blk_drewN ?_ _ | refine blk_drew ?_ | refine blk_alloc ?_ _)); exact BK166.out⟩, ⟨by repeat (first | (with_reducible first | exact HB.out | apply below_alloc | apply pw_below_drewN | apply below_drew1 | refine below_set ?_ GE166.out) | exact HB.out)⟩⟩
              case round =>
                clear H'
                try clear p1
                try clear q1
                try clear hx1
                try clear c2
                try clear c2b0
                try clear p2
                try clear c3
                try clear c3b0
                try clear c7
                try clear c7b0
                try clear c7b1
                try clear hcz6_0
                try clear hcz6_1
                try clear hcz6_2
                try clear hcz6_3
                try clear hfz6_0
                try clear hfz6_1
                try clear hfz6_2
                try clear hfz6_3
                try clear hx165_0
                try clear hx165_1
                try clear hx165_2
                try clear hx165_3
                try clear p165
                try clear q165
                obtain ⟨x6_2, rfl, HA, HK2, HO_3, BK166, HB⟩ := hrel
                cases gk with
                | zero => exact absurd HA.out (by simp [cartoucheref07_Shape.l1])
                | succ k2 =>
                  have H := HA.out
                  clear HA
                  simp only [cartoucheref07_Shape.l1] at H
                  by_cases c8 : 0 ≤ x6_2
                  · rw [if_pos c8] at H
                    have c8b0 : decide (0 ≤ x6_2) = true := decide_eq_true c8
                    clear c8
                    by_cases c9 : x6_2 < (l0.length : Int)
                    · rw [if_pos c9] at H
                      have c9b0 : decide (x6_2 < (l0.length : Int)) = true := decide_eq_true c9
                      clear c9
                      by_cases c10 : ((rd_T26 l0 x6_2).f2).toList = ((rd_T26 l0 x4_1).f2).toList
                      · rw [if_pos c10] at H
                        have c10b0 : (((rd_T26 l0 x6_2).f2).toList == ((rd_T26 l0 x4_1).f2).toList) = true := beq_iff_eq.mpr c10
                        have c10b1 : (((rd_T26 l0 x6_2).f2).toList != ((rd_T26 l0 x4_1).f2).toList) = false := bne_eq_false_iff_eq.mpr c10
                        clear c10
                        replace H := Option.bind_eq_some_iff.mp H
                        obtain ⟨t168, A110, H⟩ := H
                        replace H : (if 1 + t168.size ≤ 9223372036854775807 then (cartoucheref07_Shape.j2 k2 l0 x3_1 x4_1 ((rd_T26 l0 x4_1).f0) ((rd_T26 l0 x4_1).f1) ((⟨#[107]⟩ : ByteArray) ++ t168) ((rd_T26 l0 x4_1).f3)) else (none)) = some r := H
                        have A11 := Aside0.mk A110
                        clear A110
                        by_cases c12 : 1 + t168.size ≤ 9223372036854775807
                        · rw [if_pos c12] at H
                          have c12b0 := eq_true c12
                          have c12b1 : decide (1 + t168.size ≤ 9223372036854775807) = true := decide_eq_true c12
                          try have c12b2 : (9223372036854775807 < 1 + t168.size) = False := eq_false (Nat.not_lt.2 c12)
                          have H' := Aside0.mk H
                          clear H
                          have p167 : 0 ≤ (x6_2 : Int) := of_decide_eq_true (by first | (with_reducible assumption) | assumption)
                          have q167 : x6_2 < (l0.length : Int) := of_decide_eq_true (by first | (with_reducible assumption) | assumption)
                          obtain ⟨ad167, e167, hx167_0, hx167_1, hx167_2, hx167_3⟩ := at_T26 HR0.out x6_2 p167 q167
                          obtain rfl : ad165 = ad167 := (by injection e167)
                          replace hx167_0 := (HB.out.cell (World.block_lt_of_cell? w _ hx167_0)).trans hx167_0
                          replace hx167_1 := (HB.out.cell (World.block_lt_of_cell? w _ hx167_1)).trans hx167_1
                          replace hx167_2 := (HB.out.cell (World.block_lt_of_cell? w _ hx167_2)).trans hx167_2
                          replace hx167_3 := (HB.out.cell (World.block_lt_of_cell? w _ hx167_3)).trans hx167_3
                          replace p167 := eq_true p167
                          replace q167 := eq_true q167
                          have hcz13_0 : wr.cell? ⟨gb166, 0, none⟩ = some (.int .i64 ((rd_T26 l0 x4_1).f0)) := (blk_cell BK166.out 0).trans rfl
                          have hcz13_1 : wr.cell? ⟨gb166, 1, none⟩ = some (.int .i64 ((rd_T26 l0 x4_1).f1)) := (blk_cell BK166.out 1).trans rfl
                          have hcz13_2 : wr.cell? ⟨gb166, 2, none⟩ = some (.string ((rd_T26 l0 x4_1).f2)) := (blk_cell BK166.out 2).trans rfl
                          have hcz13_3 : wr.cell? ⟨gb166, 3, none⟩ = some (.string ((rd_T26 l0 x4_1).f3)) := (blk_cell BK166.out 3).trans rfl
                          have hfz13_0 := blk_frozen BK166.out 0
                          have hfz13_1 := blk_frozen BK166.out 1
                          have hfz13_2 := blk_frozen BK166.out 2
                          have hfz13_3 := blk_frozen BK166.out 3
                          go_wp2_with (first | (go_at_call 34; (with_reducible refine (cartoucheref07_figures.calls k2 x6_2 t168 _ A11.out).mono ?_); rintro e w14 ⟨rfl, hb⟩; have n0_ := Aside0.mk (Kd.R_below (by (with_reducible repeat (first | apply Kd.R_alloc | apply Kd.R_drewN | apply Kd.R_drew)); exact HO_3.out) hb); have n1_ := Aside0.mk (blk_below (g := gb166) (o := .cells #[.int .i64 ((rd_T26 l0 x4_1).f0), .int .i64 ((rd_T26 l0 x4_1).f1), .string ((rd_T26 l0 x4_1).f2), .string ((rd_T26 l0 x4_1).f3)] 26 (0, 0)) (by (with_reducible repeat (first | refine blk_drewN ?_ _ | refine blk_drew ?_ | refine blk_alloc ?_ _)); exact BK166.out) hb); have n2_ := Aside0.mk (below_step (by repeat (first | (with_reducible first | exact HB.out | apply below_alloc | apply pw_below_drewN | apply below_drew1 | refine below_set ?_ GE166.out) | exact HB.out)) hb); clear HO_3; clear BK166; clear HB; have HO_3 := n0_; have BK166 := n1_; have HB := n2_; clear n0_ n1_ n2_; (try clear hb); (try clear hb2); (try clear hk); (try clear hi); have hcz15_0 : w14.cell? ⟨gb166, 0, none⟩ = some (.int .i64 ((rd_T26 l0 x4_1).f0)) := (blk_cell BK166.out 0).trans rfl; have hcz15_1 : w14.cell? ⟨gb166, 1, none⟩ = some (.int .i64 ((rd_T26 l0 x4_1).f1)) := (blk_cell BK166.out 1).trans rfl; have hcz15_2 : w14.cell? ⟨gb166, 2, none⟩ = some (.string ((rd_T26 l0 x4_1).f2)) := (blk_cell BK166.out 2).trans rfl; have hcz15_3 : w14.cell? ⟨gb166, 3, none⟩ = some (.string ((rd_T26 l0 x4_1).f3)) := (blk_cell BK166.out 3).trans rfl; have hfz15_0 := blk_frozen BK166.out 0; have hfz15_1 := blk_frozen BK166.out 1; have hfz15_2 := blk_frozen BK166.out 2; have hfz15_3 := blk_frozen BK166.out 3))
                          repeat (go_quiet (first | (go_at_call 34; (with_reducible refine (cartoucheref07_figures.calls k2 x6_2 t168 _ A11.out).mono ?_); rintro e w14 ⟨rfl, hb⟩; have n0_ := Aside0.mk (Kd.R_below (by (with_reducible repeat (first | apply Kd.R_alloc | apply Kd.R_drewN | apply Kd.R_drew)); exact HO_3.out) hb); have n1_ := Aside0.mk (blk_below (g := gb166) (o := .cells #[.int .i64 ((rd_T26 l0 x4_1).f0), .int .i64 ((rd_T26 l0 x4_1).f1), .string ((rd_T26 l0 x4_1).f2), .string ((rd_T26 l0 x4_1).f3)] 26 (0, 0)) (by (with_reducible repeat (first | refine blk_drewN ?_ _ | refine blk_drew ?_ | refine blk_alloc ?_ _)); exact BK166.out) hb); have n2_ := Aside0.mk (below_step (by repeat (first | (with_reducible first | exact HB.out | apply below_alloc | apply pw_below_drewN | apply below_drew1 | refine below_set ?_ GE166.out) | exact HB.out)) hb); clear HO_3; clear BK166; clear HB; have HO_3 := n0_; have BK166 := n1_; have HB := n2_; clear n0_ n1_ n2_; (try clear hb); (try clear hb2); (try clear hk); (try clear hi); have hcz15_0 : w14.cell? ⟨gb166, 0, none⟩ = some (.int .i64 ((rd_T26 l0 x4_1).f0)) := (blk_cell BK166.out 0).trans rfl; have hcz15_1 : w14.cell? ⟨gb166, 1, none⟩ = some (.int .i64 ((rd_T26 l0 x4_1).f1)) := (blk_cell BK166.out 1).trans rfl; have hcz15_2 : w14.cell? ⟨gb166, 2, none⟩ = some (.string ((rd_T26 l0 x4_1).f2)) := (blk_cell BK166.out 2).trans rfl; have hcz15_3 : w14.cell? ⟨gb166, 3, none⟩ = some (.string ((rd_T26 l0 x4_1).f3)) := (blk_cell BK166.out 3).trans rfl; have hfz15_0 := blk_frozen BK166.out 0; have hfz15_1 := blk_frozen BK166.out 1; have hfz15_2 := blk_frozen BK166.out 2; have hfz15_3 := blk_frozen BK166.out 3)); try go_wp2_with (first | (go_at_call 34; (with_reducible refine (cartoucheref07_figures.calls k2 x6_2 t168 _ A11.out).mono ?_); rintro e w14 ⟨rfl, hb⟩; have n0_ := Aside0.mk (Kd.R_below (by (with_reducible repeat (first | apply Kd.R_alloc | apply Kd.R_drewN | apply Kd.R_drew)); exact HO_3.out) hb); have n1_ := Aside0.mk (blk_below (g := gb166) (o := .cells #[.int .i64 ((rd_T26 l0 x4_1).f0), .int .i64 ((rd_T26 l0 x4_1).f1), .string ((rd_T26 l0 x4_1).f2), .string ((rd_T26 l0 x4_1).f3)] 26 (0, 0)) (by (with_reducible repeat (first | refine blk_drewN ?_ _ | refine blk_drew ?_ | refine blk_alloc ?_ _)); exact BK166.out) hb); have n2_ := Aside0.mk (below_step (by repeat (first | (with_reducible first | exact HB.out | apply below_alloc | apply pw_below_drewN | apply below_drew1 | refine below_set ?_ GE166.out) | exact HB.out)) hb); clear HO_3; clear BK166; clear HB; have HO_3 := n0_; have BK166 := n1_; have HB := n2_; clear n0_ n1_ n2_; (try clear hb); (try clear hb2); (try clear hk); (try clear hi); have hcz15_0 : w14.cell? ⟨gb166, 0, none⟩ = some (.int .i64 ((rd_T26 l0 x4_1).f0)) := (blk_cell BK166.out 0).trans rfl; have hcz15_1 : w14.cell? ⟨gb166, 1, none⟩ = some (.int .i64 ((rd_T26 l0 x4_1).f1)) := (blk_cell BK166.out 1).trans rfl; have hcz15_2 : w14.cell? ⟨gb166, 2, none⟩ = some (.string ((rd_T26 l0 x4_1).f2)) := (blk_cell BK166.out 2).trans rfl; have hcz15_3 : w14.cell? ⟨gb166, 3, none⟩ = some (.string ((rd_T26 l0 x4_1).f3)) := (blk_cell BK166.out 3).trans rfl; have hfz15_0 := blk_frozen BK166.out 0; have hfz15_1 := blk_frozen BK166.out 1; have hfz15_2 := blk_frozen BK166.out 2; have hfz15_3 := blk_frozen BK166.out 3)))
                          go_meet
                          case rel => exact ⟨_, ((⟨#[107]⟩ : ByteArray) ++ t168), H', ⟨by have := HK1.out; have := HK2.out; first | omega | exact Nat.le_refl _⟩, ⟨by (with_reducible repeat (first | apply Kd.R_alloc | apply Kd.R_drewN | apply Kd.R_drew)); exact Kd.R_mono (Kd.R_far (p := ⟨gb166, 2, none⟩) (Kd.R_mono HO_3.out (fun k_ hk => (⟨hk, hk⟩ : _ ∧ k_ ≠ gb166))) (fun _ hk => hk.2) (.string ((⟨#[107]⟩ : ByteArray) ++ t168))) (fun _ hk => hk.1)⟩, ⟨by (with_reducible repeat (first | refine blk_drewN ?_ _ | refine blk_drew ?_ | refine blk_alloc ?_ _)); refine blk_put (cs := #[.int .i64 ((rd_T26 l0 x4_1).f0), .int .i64 ((rd_T26 l0 x4_1).f1), .string ((rd_T26 l0 x4_1).f2), .string ((rd_T26 l0 x4_1).f3)]) ?_ 2 _ rfl; (with_reducible repeat (first | refine blk_drewN ?_ _ | refine blk_drew ?_ | refine blk_alloc ?_ _)); exact BK166.out⟩, ⟨by repeat (first | (with_reducible first | exact HB.out | apply below_alloc | apply pw_below_drewN | apply below_drew1 | refine below_set ?_ GE166.out) | exact HB.out)⟩⟩
                        · rw [if_neg c12] at H
                          exact absurd H (by simp)
                      · rw [if_neg c10] at H
                        have c10b0 : (((rd_T26 l0 x6_2).f2).toList == ((rd_T26 l0 x4_1).f2).toList) = false := beq_eq_false_iff_ne.mpr c10
                        have c10b1 : (((rd_T26 l0 x6_2).f2).toList != ((rd_T26 l0 x4_1).f2).toList) = true := bne_iff_ne.mpr c10
                        have H' := Aside0.mk H
                        clear H
                        have p167 : 0 ≤ (x6_2 : Int) := of_decide_eq_true (by first | (with_reducible assumption) | assumption)
                        have q167 : x6_2 < (l0.length : Int) := of_decide_eq_true (by first | (with_reducible assumption) | assumption)
                        obtain ⟨ad167, e167, hx167_0, hx167_1, hx167_2, hx167_3⟩ := at_T26 HR0.out x6_2 p167 q167
                        obtain rfl : ad165 = ad167 := (by injection e167)
                        replace hx167_0 := (HB.out.cell (World.block_lt_of_cell? w _ hx167_0)).trans hx167_0
                        replace hx167_1 := (HB.out.cell (World.block_lt_of_cell? w _ hx167_1)).trans hx167_1
                        replace hx167_2 := (HB.out.cell (World.block_lt_of_cell? w _ hx167_2)).trans hx167_2
                        replace hx167_3 := (HB.out.cell (World.block_lt_of_cell? w _ hx167_3)).trans hx167_3
                        replace p167 := eq_true p167
                        replace q167 := eq_true q167
                        have hcz16_0 : wr.cell? ⟨gb166, 0, none⟩ = some (.int .i64 ((rd_T26 l0 x4_1).f0)) := (blk_cell BK166.out 0).trans rfl
                        have hcz16_1 : wr.cell? ⟨gb166, 1, none⟩ = some (.int .i64 ((rd_T26 l0 x4_1).f1)) := (blk_cell BK166.out 1).trans rfl
                        have hcz16_2 : wr.cell? ⟨gb166, 2, none⟩ = some (.string ((rd_T26 l0 x4_1).f2)) := (blk_cell BK166.out 2).trans rfl
                        have hcz16_3 : wr.cell? ⟨gb166, 3, none⟩ = some (.string ((rd_T26 l0 x4_1).f3)) := (blk_cell BK166.out 3).trans rfl
                        have hfz16_0 := blk_frozen BK166.out 0
                        have hfz16_1 := blk_frozen BK166.out 1
                        have hfz16_2 := blk_frozen BK166.out 2
                        have hfz16_3 := blk_frozen BK166.out 3
                        go_wp2
                        repeat (go_quiet (fail); try go_wp2)
                        go_roundg k2
                        case measure => have := HK1.out; have := HK2.out; omega
                        case rel => exact ⟨(wrap64 (x6_2 + 1)), (by first | rfl | (simp; done) | (simp [*]; done)), H', ⟨by have := HK1.out; have := HK2.out; omega⟩, ⟨by (with_reducible repeat (first | apply Kd.R_alloc | apply Kd.R_drewN | apply Kd.R_drew)); exact HO_3.out⟩, ⟨by (with_reducible repeat (first | refine blk_drewN ?_ _ | refine blk_drew ?_ | refine blk_alloc ?_ _)); exact BK166.out⟩, ⟨by repeat (first | (with_reducible first | exact HB.out | apply below_alloc | apply pw_below_drewN | apply below_drew1 | refine below_set ?_ GE166.out) | exact HB.out)⟩⟩
                    · rw [if_neg c9] at H
                      exact absurd H (by simp)
                  · rw [if_neg c8] at H
                    exact absurd H (by simp)
          case rest =>
            clear HC4
            try clear c1
            try clear p1
            try clear q1
            try clear hx1
            try clear c2
            try clear c2b0
            try clear p2
            try clear c3
            try clear c3b0
            try clear p6
            try clear c7
            try clear c7b0
            try clear c7b1
            try clear c8
            try clear c8b0
            try clear c9
            try clear c9b0
            try clear c10
            try clear c10b0
            try clear c10b1
            try clear c12
            try clear c12b0
            try clear c12b1
            try clear c12b2
            try clear p16
            try clear q16
            try clear hx16
            try clear hcz13_0
            try clear hcz13_1
            try clear hcz13_2
            try clear hcz13_3
            try clear hcz15_0
            try clear hcz15_1
            try clear hcz15_2
            try clear hcz15_3
            try clear hcz16_0
            try clear hcz16_1
            try clear hcz16_2
            try clear hcz16_3
            try clear hcz6_0
            try clear hcz6_1
            try clear hcz6_2
            try clear hcz6_3
            try clear hfz13_0
            try clear hfz13_1
            try clear hfz13_2
            try clear hfz13_3
            try clear hfz15_0
            try clear hfz15_1
            try clear hfz15_2
            try clear hfz15_3
            try clear hfz16_0
            try clear hfz16_1
            try clear hfz16_2
            try clear hfz16_3
            try clear hfz6_0
            try clear hfz6_1
            try clear hfz6_2
            try clear hfz6_3
            try clear hx165_0
            try clear hx165_1
            try clear hx165_2
            try clear hx165_3
            try clear hx167_0
            try clear hx167_1
            try clear hx167_2
            try clear hx167_3
            try clear p1
            try clear p165
            try clear p167
            try clear p2
            try clear q1
            try clear q165
            try clear q167
            obtain ⟨kq, x167002_3, HA, HJ3, HO_3, BK166, HB⟩ := hcut
            cases kq with
            | zero => exact absurd HA.out (by simp [cartoucheref07_Shape.j2])
            | succ kj3 =>
              have H := HA.out
              clear HA
              simp only [cartoucheref07_Shape.j2] at H
              by_cases c17 : ((rd_T26 l0 x4_1).f3).toList = ([] : List UInt8)
              · rw [if_pos c17] at H
                have c17b0 : (((rd_T26 l0 x4_1).f3).toList == ([] : List UInt8)) = true := beq_iff_eq.mpr c17
                have c17b2 : (((rd_T26 l0 x4_1).f3).toList).isEmpty = true := List.isEmpty_iff.mpr c17
                have c17b1 : (((rd_T26 l0 x4_1).f3).toList != ([] : List UInt8)) = false := bne_eq_false_iff_eq.mpr c17
                clear c17
                by_cases c18 : x3_1.length < 2932031007402
                · rw [if_pos c18] at H
                  have LMc18 := Aside0.mk c18
                  clear c18
                  obtain ⟨y169, hy169⟩ : ∃ y_ : List (S26), y_ = (x3_1 ++ [(⟨((rd_T26 l0 x4_1).f0), ((rd_T26 l0 x4_1).f1), x167002_3, ((rd_T26 l0 x4_1).f3)⟩ : S26)]) := ⟨_, rfl⟩
                  replace H : (cartoucheref07_Shape.l0 kj3 l0 y169 (wrap64 (x4_1 + 1))) = some r := by first | (rw [hy169]; with_reducible exact H) | (have H2_ := (Option.bind_some _ _).symm.trans H; rw [hy169]; with_reducible exact H2_) | (have H2_ := (Option.bind_some _ _).symm.trans H; with_reducible exact H2_) | with_reducible exact H | (rw [hy169]; exact H) | exact H
                  have Ny169 := Aside0.mk hy169
                  clear hy169
                  have H' := Aside0.mk H
                  clear H
                  have hcz19_0 : wc.cell? ⟨gb166, 0, none⟩ = some (.int .i64 ((rd_T26 l0 x4_1).f0)) := (blk_cell BK166.out 0).trans rfl
                  have hcz19_1 : wc.cell? ⟨gb166, 1, none⟩ = some (.int .i64 ((rd_T26 l0 x4_1).f1)) := (blk_cell BK166.out 1).trans rfl
                  have hcz19_2 : wc.cell? ⟨gb166, 2, none⟩ = some (.string x167002_3) := (blk_cell BK166.out 2).trans rfl
                  have hcz19_3 : wc.cell? ⟨gb166, 3, none⟩ = some (.string ((rd_T26 l0 x4_1).f3)) := (blk_cell BK166.out 3).trans rfl
                  have hfz19_0 := blk_frozen BK166.out 0
                  have hfz19_1 := blk_frozen BK166.out 1
                  have hfz19_2 := blk_frozen BK166.out 2
                  have hfz19_3 := blk_frozen BK166.out 3
                  go_wp2_with (first | ((with_reducible refine look_builtin (b := .append) (xs := #[.tmp 55, .tmp 57]) rfl ?_); at_builtin; refine Kd.R_append k26 (w0 := w) w.heap.size rfl (.tmp 55) (.tmp 57) 22 26 (.agg #[(.int .i64 0), (.int .i64 0), (.string ⟨#[]⟩), (.string ⟨#[]⟩)]) 48 rfl Tryd.underlying22 info26 rfl (by decide) (by omega) u3 x3_1 (⟨((rd_T26 l0 x4_1).f0), ((rd_T26 l0 x4_1).f1), x167002_3, ((rd_T26 l0 x4_1).f3)⟩ : S26) [.int .i64 ((rd_T26 l0 x4_1).f0), .int .i64 ((rd_T26 l0 x4_1).f1), .string x167002_3, .string ((rd_T26 l0 x4_1).f3)] (fun k_ => k_ ≠ gb166) (fun _ => False) rfl rfl ?aP (fun _ hk => hk.elim) ?aF ?aO ?aB ?aS ?aL ?_; (case aP => exact k26_mkM _ _ _ (⟨((rd_T26 l0 x4_1).f0), ((rd_T26 l0 x4_1).f1), x167002_3, ((rd_T26 l0 x4_1).f3)⟩ : S26)); (case aB => exact (by repeat (first | (with_reducible first | exact HB.out | apply below_alloc | apply pw_below_drewN | apply below_drew1 | refine below_set ?_ GE166.out) | exact HB.out))); (case aF => exact (fun k_ hk => Kd.freshB (g := gb166) (o := .cells #[.int .i64 ((rd_T26 l0 x4_1).f0), .int .i64 ((rd_T26 l0 x4_1).f1), .string x167002_3, .string ((rd_T26 l0 x4_1).f3)] 26 (0, 0)) (by (with_reducible repeat (first | refine blk_drewN ?_ _ | refine blk_drew ?_ | refine blk_alloc ?_ _)); exact BK166.out) k_ hk)); (case aO => exact (by (with_reducible repeat (first | apply Kd.R_alloc | apply Kd.R_drewN | apply Kd.R_drew)); exact HO_3.out)); (case aS => exact (below_size (by repeat (first | (with_reducible first | exact HB.out | apply below_alloc | apply pw_below_drewN | apply below_drew1 | refine below_set ?_ GE166.out) | exact HB.out)))); (case aL => have := LMc18.out; omega); intro v170 w20 ho hb hg hat; rw [← Ny169.out] at ho; have n0_ := Aside0.mk (blk_grown (g := gb166) (o := .cells #[.int .i64 ((rd_T26 l0 x4_1).f0), .int .i64 ((rd_T26 l0 x4_1).f1), .string x167002_3, .string ((rd_T26 l0 x4_1).f3)] 26 (0, 0)) (by (with_reducible repeat (first | refine blk_drewN ?_ _ | refine blk_drew ?_ | refine blk_alloc ?_ _)); exact BK166.out) hg (Kd.R_away HO_3.out (fun _ hk => hk))); have n1_ := Aside0.mk (hb); have n2_ := Aside0.mk (ho); clear BK166; clear HB; clear HO_3; have BK166 := n0_; have HB := n1_; have HO171 := n2_; clear n0_ n1_ n2_; clear ho hb hg hat))
                  repeat (go_quiet (first | ((with_reducible refine look_builtin (b := .append) (xs := #[.tmp 55, .tmp 57]) rfl ?_); at_builtin; refine Kd.R_append k26 (w0 := w) w.heap.size rfl (.tmp 55) (.tmp 57) 22 26 (.agg #[(.int .i64 0), (.int .i64 0), (.string ⟨#[]⟩), (.string ⟨#[]⟩)]) 48 rfl Tryd.underlying22 info26 rfl (by decide) (by omega) u3 x3_1 (⟨((rd_T26 l0 x4_1).f0), ((rd_T26 l0 x4_1).f1), x167002_3, ((rd_T26 l0 x4_1).f3)⟩ : S26) [.int .i64 ((rd_T26 l0 x4_1).f0), .int .i64 ((rd_T26 l0 x4_1).f1), .string x167002_3, .string ((rd_T26 l0 x4_1).f3)] (fun k_ => k_ ≠ gb166) (fun _ => False) rfl rfl ?aP (fun _ hk => hk.elim) ?aF ?aO ?aB ?aS ?aL ?_; (case aP => exact k26_mkM _ _ _ (⟨((rd_T26 l0 x4_1).f0), ((rd_T26 l0 x4_1).f1), x167002_3, ((rd_T26 l0 x4_1).f3)⟩ : S26)); (case aB => exact (by repeat (first | (with_reducible first | exact HB.out | apply below_alloc | apply pw_below_drewN | apply below_drew1 | refine below_set ?_ GE166.out) | exact HB.out))); (case aF => exact (fun k_ hk => Kd.freshB (g := gb166) (o := .cells #[.int .i64 ((rd_T26 l0 x4_1).f0), .int .i64 ((rd_T26 l0 x4_1).f1), .string x167002_3, .string ((rd_T26 l0 x4_1).f3)] 26 (0, 0)) (by (with_reducible repeat (first | refine blk_drewN ?_ _ | refine blk_drew ?_ | refine blk_alloc ?_ _)); exact BK166.out) k_ hk)); (case aO => exact (by (with_reducible repeat (first | apply Kd.R_alloc | apply Kd.R_drewN | apply Kd.R_drew)); exact HO_3.out)); (case aS => exact (below_size (by repeat (first | (with_reducible first | exact HB.out | apply below_alloc | apply pw_below_drewN | apply below_drew1 | refine below_set ?_ GE166.out) | exact HB.out)))); (case aL => have := LMc18.out; omega); intro v170 w20 ho hb hg hat; rw [← Ny169.out] at ho; have n0_ := Aside0.mk (blk_grown (g := gb166) (o := .cells #[.int .i64 ((rd_T26 l0 x4_1).f0), .int .i64 ((rd_T26 l0 x4_1).f1), .string x167002_3, .string ((rd_T26 l0 x4_1).f3)] 26 (0, 0)) (by (with_reducible repeat (first | refine blk_drewN ?_ _ | refine blk_drew ?_ | refine blk_alloc ?_ _)); exact BK166.out) hg (Kd.R_away HO_3.out (fun _ hk => hk))); have n1_ := Aside0.mk (hb); have n2_ := Aside0.mk (ho); clear BK166; clear HB; clear HO_3; have BK166 := n0_; have HB := n1_; have HO171 := n2_; clear n0_ n1_ n2_; clear ho hb hg hat)); try go_wp2_with (first | ((with_reducible refine look_builtin (b := .append) (xs := #[.tmp 55, .tmp 57]) rfl ?_); at_builtin; refine Kd.R_append k26 (w0 := w) w.heap.size rfl (.tmp 55) (.tmp 57) 22 26 (.agg #[(.int .i64 0), (.int .i64 0), (.string ⟨#[]⟩), (.string ⟨#[]⟩)]) 48 rfl Tryd.underlying22 info26 rfl (by decide) (by omega) u3 x3_1 (⟨((rd_T26 l0 x4_1).f0), ((rd_T26 l0 x4_1).f1), x167002_3, ((rd_T26 l0 x4_1).f3)⟩ : S26) [.int .i64 ((rd_T26 l0 x4_1).f0), .int .i64 ((rd_T26 l0 x4_1).f1), .string x167002_3, .string ((rd_T26 l0 x4_1).f3)] (fun k_ => k_ ≠ gb166) (fun _ => False) rfl rfl ?aP (fun _ hk => hk.elim) ?aF ?aO ?aB ?aS ?aL ?_; (case aP => exact k26_mkM _ _ _ (⟨((rd_T26 l0 x4_1).f0), ((rd_T26 l0 x4_1).f1), x167002_3, ((rd_T26 l0 x4_1).f3)⟩ : S26)); (case aB => exact (by repeat (first | (with_reducible first | exact HB.out | apply below_alloc | apply pw_below_drewN | apply below_drew1 | refine below_set ?_ GE166.out) | exact HB.out))); (case aF => exact (fun k_ hk => Kd.freshB (g := gb166) (o := .cells #[.int .i64 ((rd_T26 l0 x4_1).f0), .int .i64 ((rd_T26 l0 x4_1).f1), .string x167002_3, .string ((rd_T26 l0 x4_1).f3)] 26 (0, 0)) (by (with_reducible repeat (first | refine blk_drewN ?_ _ | refine blk_drew ?_ | refine blk_alloc ?_ _)); exact BK166.out) k_ hk)); (case aO => exact (by (with_reducible repeat (first | apply Kd.R_alloc | apply Kd.R_drewN | apply Kd.R_drew)); exact HO_3.out)); (case aS => exact (below_size (by repeat (first | (with_reducible first | exact HB.out | apply below_alloc | apply pw_below_drewN | apply below_drew1 | refine below_set ?_ GE166.out) | exact HB.out)))); (case aL => have := LMc18.out; omega); intro v170 w20 ho hb hg hat; rw [← Ny169.out] at ho; have n0_ := Aside0.mk (blk_grown (g := gb166) (o := .cells #[.int .i64 ((rd_T26 l0 x4_1).f0), .int .i64 ((rd_T26 l0 x4_1).f1), .string x167002_3, .string ((rd_T26 l0 x4_1).f3)] 26 (0, 0)) (by (with_reducible repeat (first | refine blk_drewN ?_ _ | refine blk_drew ?_ | refine blk_alloc ?_ _)); exact BK166.out) hg (Kd.R_away HO_3.out (fun _ hk => hk))); have n1_ := Aside0.mk (hb); have n2_ := Aside0.mk (ho); clear BK166; clear HB; clear HO_3; have BK166 := n0_; have HB := n1_; have HO171 := n2_; clear n0_ n1_ n2_; clear ho hb hg hat)))
                  go_roundg kj3
                  case measure => have := HK1.out; have := HJ3.out; omega
                  case rel => exact ⟨(y169), (wrap64 (x4_1 + 1)), (by first | rfl | (simp; done) | (simp [*]; done)), H', ⟨by have := HK1.out; have := HJ3.out; omega⟩, ⟨by (with_reducible repeat (first | apply Kd.R_alloc | apply Kd.R_drewN | apply Kd.R_drew)); exact Kd.R_mono HO171.out (fun _ hk => trivial)⟩, ⟨by repeat (first | (with_reducible first | exact HB.out | apply below_alloc | apply pw_below_drewN | apply below_drew1 | refine below_set ?_ GE166.out) | exact HB.out)⟩⟩
                · rw [if_neg c18] at H
                  exact absurd H (by simp)
              · rw [if_neg c17] at H
                have c17b0 : (((rd_T26 l0 x4_1).f3).toList == ([] : List UInt8)) = false := beq_eq_false_iff_ne.mpr c17
                have c17b2 : (((rd_T26 l0 x4_1).f3).toList).isEmpty = false := (by rw [← Bool.not_eq_true, List.isEmpty_iff]; exact c17)
                have c17b1 : (((rd_T26 l0 x4_1).f3).toList != ([] : List UInt8)) = true := bne_iff_ne.mpr c17
                have H' := Aside0.mk H
                clear H
                have hcz21_0 : wc.cell? ⟨gb166, 0, none⟩ = some (.int .i64 ((rd_T26 l0 x4_1).f0)) := (blk_cell BK166.out 0).trans rfl
                have hcz21_1 : wc.cell? ⟨gb166, 1, none⟩ = some (.int .i64 ((rd_T26 l0 x4_1).f1)) := (blk_cell BK166.out 1).trans rfl
                have hcz21_2 : wc.cell? ⟨gb166, 2, none⟩ = some (.string x167002_3) := (blk_cell BK166.out 2).trans rfl
                have hcz21_3 : wc.cell? ⟨gb166, 3, none⟩ = some (.string ((rd_T26 l0 x4_1).f3)) := (blk_cell BK166.out 3).trans rfl
                have hfz21_0 := blk_frozen BK166.out 0
                have hfz21_1 := blk_frozen BK166.out 1
                have hfz21_2 := blk_frozen BK166.out 2
                have hfz21_3 := blk_frozen BK166.out 3
                go_wp2
                repeat (go_quiet (fail); try go_wp2)
                go_loopg [7] kj3 (fun kq v7 w' => ∃ (x7_3 : Int), v7 = .int .i64 x7_3 ∧ Aside0 (cartoucheref07_Shape.l2 kq l0 x3_1 x4_1 x7_3 ((rd_T26 l0 x4_1).f0) ((rd_T26 l0 x4_1).f1) x167002_3 ((rd_T26 l0 x4_1).f3) = some r) ∧ Aside0 (kq ≤ kj3) ∧ Aside0 (Kd.R k26 26 w' w.heap.size (fun k_ => k_ ≠ gb166) u3 x3_1) ∧ Aside0 (w'.heap[gb166]? = some (.cells #[.int .i64 ((rd_T26 l0 x4_1).f0), .int .i64 ((rd_T26 l0 x4_1).f1), .string x167002_3, .string ((rd_T26 l0 x4_1).f3)] 26 (0, 0))) ∧ Aside0 (Below w.heap.size w w'))
                case atStart => exact ⟨(0), (by first | rfl | (simp; done) | (simp [*]; done)), H', ⟨Nat.le_refl _⟩, ⟨by (with_reducible repeat (first | apply Kd.R_alloc | apply Kd.R_drewN | apply Kd.R_drew)); exact HO_3.out⟩, ⟨by (with_reducible repeat (first | refine blk_drewN ?_ _ | refine blk_drew ?_ | refine blk_alloc ?_ _)); exact BK166.out⟩, ⟨by repeat (first | (with_reducible first | exact HB.out | apply below_alloc | apply pw_below_drewN | apply below_drew1 | refine below_set ?_ GE166.out) | exact HB.out)⟩⟩
                case round =>
                  clear H'
                  try clear c1
                  try clear p1
                  try clear q1
                  try clear hx1
                  try clear c2
                  try clear c2b0
                  try clear p2
                  try clear c3
                  try clear c3b0
                  try clear p6
                  try clear c7
                  try clear c7b0
                  try clear c7b1
                  try clear c8
                  try clear c8b0
                  try clear c9
                  try clear c9b0
                  try clear c10
                  try clear c10b0
                  try clear c10b1
                  try clear c12
                  try clear c12b0
                  try clear c12b1
                  try clear c12b2
                  try clear p16
                  try clear q16
                  try clear hx16
                  try clear c17
                  try clear c17b0
                  try clear c17b1
                  try clear c18
                  try clear hcz13_0
                  try clear hcz13_1
                  try clear hcz13_2
                  try clear hcz13_3
                  try clear hcz15_0
                  try clear hcz15_1
                  try clear hcz15_2
                  try clear hcz15_3
                  try clear hcz16_0
                  try clear hcz16_1
                  try clear hcz16_2
                  try clear hcz16_3
                  try clear hcz19_0
                  try clear hcz19_1
                  try clear hcz19_2
                  try clear hcz19_3
                  try clear hcz21_0
                  try clear hcz21_1
                  try clear hcz21_2
                  try clear hcz21_3
                  try clear hcz6_0
                  try clear hcz6_1
                  try clear hcz6_2
                  try clear hcz6_3
                  try clear hfz13_0
                  try clear hfz13_1
                  try clear hfz13_2
                  try clear hfz13_3
                  try clear hfz15_0
                  try clear hfz15_1
                  try clear hfz15_2
                  try clear hfz15_3
                  try clear hfz16_0
                  try clear hfz16_1
                  try clear hfz16_2
                  try clear hfz16_3
                  try clear hfz19_0
                  try clear hfz19_1
                  try clear hfz19_2
                  try clear hfz19_3
                  try clear hfz21_0
                  try clear hfz21_1
                  try clear hfz21_2
                  try clear hfz21_3
                  try clear hfz6_0
                  try clear hfz6_1
                  try clear hfz6_2
                  try clear hfz6_3
                  try clear hx165_0
                  try clear hx165_1
                  try clear hx165_2
                  try clear hx165_3
                  try clear hx167_0
                  try clear hx167_1
                  try clear hx167_2
                  try clear hx167_3
                  try clear p1
                  try clear p16
                  try clear p165
                  try clear p167
                  try clear p2
                  try clear p6
                  try clear q1
                  try clear q16
                  try clear q165
                  try clear q167
                  obtain ⟨x7_3, rfl, HA, HK3, HO_3, BK166, HB⟩ := hrel
                  cases gk with
                  | zero => exact absurd HA.out (by simp [cartoucheref07_Shape.l2])
                  | succ k3 =>
                    have H := HA.out
                    clear HA
                    simp only [cartoucheref07_Shape.l2] at H
                    by_cases c22 : 0 ≤ x7_3
                    · rw [if_pos c22] at H
                      have c22b0 : decide (0 ≤ x7_3) = true := decide_eq_true c22
                      clear c22
                      by_cases c23 : x7_3 < (l0.length : Int)
                      · rw [if_pos c23] at H
                        have c23b0 : decide (x7_3 < (l0.length : Int)) = true := decide_eq_true c23
                        clear c23
                        by_cases c24 : 0 ≤ x4_1
                        · rw [if_pos c24] at H
                          have c24b0 : decide (0 ≤ x4_1) = true := decide_eq_true c24
                          clear c24
                          by_cases c25 : x4_1 < (l0.length : Int)
                          · rw [if_pos c25] at H
                            have c25b0 : decide (x4_1 < (l0.length : Int)) = true := decide_eq_true c25
                            clear c25
                            by_cases c26 : ((rd_T26 l0 x7_3).f3).toList = ((rd_T26 l0 x4_1).f3).toList
                            · rw [if_pos c26] at H
                              have c26b0 : (((rd_T26 l0 x7_3).f3).toList == ((rd_T26 l0 x4_1).f3).toList) = true := beq_iff_eq.mpr c26
                              have c26b1 : (((rd_T26 l0 x7_3).f3).toList != ((rd_T26 l0 x4_1).f3).toList) = false := bne_eq_false_iff_eq.mpr c26
                              clear c26
                              replace H := Option.bind_eq_some_iff.mp H
                              obtain ⟨t174, A270, H⟩ := H
                              replace H : (if 1 + t174.size ≤ 9223372036854775807 then (if x3_1.length < 2932031007402 then (cartoucheref07_Shape.l0 k3 l0 (x3_1 ++ [(⟨((rd_T26 l0 x4_1).f0), ((rd_T26 l0 x4_1).f1), x167002_3, (⟨#[118]⟩ : ByteArray) ++ t174⟩ : S26)]) (wrap64 (x4_1 + 1))) else (none)) else (none)) = some r := H
                              have A27 := Aside0.mk A270
                              clear A270
                              by_cases c28 : 1 + t174.size ≤ 9223372036854775807
                              · rw [if_pos c28] at H
                                have c28b0 := eq_true c28
                                have c28b1 : decide (1 + t174.size ≤ 9223372036854775807) = true := decide_eq_true c28
                                try have c28b2 : (9223372036854775807 < 1 + t174.size) = False := eq_false (Nat.not_lt.2 c28)
                                by_cases c29 : x3_1.length < 2932031007402
                                · rw [if_pos c29] at H
                                  have LMc29 := Aside0.mk c29
                                  clear c29
                                  obtain ⟨y175, hy175⟩ : ∃ y_ : List (S26), y_ = (x3_1 ++ [(⟨((rd_T26 l0 x4_1).f0), ((rd_T26 l0 x4_1).f1), x167002_3, (⟨#[118]⟩ : ByteArray) ++ t174⟩ : S26)]) := ⟨_, rfl⟩
                                  replace H : (cartoucheref07_Shape.l0 k3 l0 y175 (wrap64 (x4_1 + 1))) = some r := by first | (rw [hy175]; with_reducible exact H) | (have H2_ := (Option.bind_some _ _).symm.trans H; rw [hy175]; with_reducible exact H2_) | (have H2_ := (Option.bind_some _ _).symm.trans H; with_reducible exact H2_) | with_reducible exact H | (rw [hy175]; exact H) | exact H
                                  have Ny175 := Aside0.mk hy175
                                  clear hy175
                                  have H' := Aside0.mk H
                                  clear H
                                  have p172 : 0 ≤ (x7_3 : Int) := of_decide_eq_true (by first | (with_reducible assumption) | assumption)
                                  have q172 : x7_3 < (l0.length : Int) := of_decide_eq_true (by first | (with_reducible assumption) | assumption)
                                  obtain ⟨ad172, e172, hx172_0, hx172_1, hx172_2, hx172_3⟩ := at_T26 HR0.out x7_3 p172 q172
                                  obtain rfl : ad165 = ad172 := (by injection e172)
                                  replace hx172_0 := (HB.out.cell (World.block_lt_of_cell? w _ hx172_0)).trans hx172_0
                                  replace hx172_1 := (HB.out.cell (World.block_lt_of_cell? w _ hx172_1)).trans hx172_1
                                  replace hx172_2 := (HB.out.cell (World.block_lt_of_cell? w _ hx172_2)).trans hx172_2
                                  replace hx172_3 := (HB.out.cell (World.block_lt_of_cell? w _ hx172_3)).trans hx172_3
                                  replace p172 := eq_true p172
                                  replace q172 := eq_true q172
                                  have p173 : 0 ≤ (x4_1 : Int) := of_decide_eq_true (by first | (with_reducible assumption) | assumption)
                                  have q173 : x4_1 < (l0.length : Int) := of_decide_eq_true (by first | (with_reducible assumption) | assumption)
                                  obtain ⟨ad173, e173, hx173_0, hx173_1, hx173_2, hx173_3⟩ := at_T26 HR0.out x4_1 p173 q173
                                  obtain rfl : ad165 = ad173 := (by injection e173)
                                  replace hx173_0 := (HB.out.cell (World.block_lt_of_cell? w _ hx173_0)).trans hx173_0
                                  replace hx173_1 := (HB.out.cell (World.block_lt_of_cell? w _ hx173_1)).trans hx173_1
                                  replace hx173_2 := (HB.out.cell (World.block_lt_of_cell? w _ hx173_2)).trans hx173_2
                                  replace hx173_3 := (HB.out.cell (World.block_lt_of_cell? w _ hx173_3)).trans hx173_3
                                  replace p173 := eq_true p173
                                  replace q173 := eq_true q173
                                  go_wp2_with (first | (go_at_call 34; (with_reducible refine (cartoucheref07_figures.calls k3 x7_3 t174 _ A27.out).mono ?_); rintro e w30 ⟨rfl, hb⟩; have n0_ := Aside0.mk (Kd.R_below (by (with_reducible repeat (first | apply Kd.R_alloc | apply Kd.R_drewN | apply Kd.R_drew)); exact HO_3.out) hb); have n1_ := Aside0.mk (blk_below (g := gb166) (o := .cells #[.int .i64 ((rd_T26 l0 x4_1).f0), .int .i64 ((rd_T26 l0 x4_1).f1), .string x167002_3, .string ((rd_T26 l0 x4_1).f3)] 26 (0, 0)) (by (with_reducible repeat (first | refine blk_drewN ?_ _ | refine blk_drew ?_ | refine blk_alloc ?_ _)); exact BK166.out) hb); have n2_ := Aside0.mk (below_step (by repeat (first | (with_reducible first | exact HB.out | apply below_alloc | apply pw_below_drewN | apply below_drew1 | refine below_set ?_ GE166.out) | exact HB.out)) hb); clear HO_3; clear BK166; clear HB; have HO_3 := n0_; have BK166 := n1_; have HB := n2_; clear n0_ n1_ n2_; (try clear hb); (try clear hb2); (try clear hk); (try clear hi); have hcz31_0 : w30.cell? ⟨gb166, 0, none⟩ = some (.int .i64 ((rd_T26 l0 x4_1).f0)) := (blk_cell BK166.out 0).trans rfl; have hcz31_1 : w30.cell? ⟨gb166, 1, none⟩ = some (.int .i64 ((rd_T26 l0 x4_1).f1)) := (blk_cell BK166.out 1).trans rfl; have hcz31_2 : w30.cell? ⟨gb166, 2, none⟩ = some (.string x167002_3) := (blk_cell BK166.out 2).trans rfl; have hcz31_3 : w30.cell? ⟨gb166, 3, none⟩ = some (.string ((rd_T26 l0 x4_1).f3)) := (blk_cell BK166.out 3).trans rfl; have hfz31_0 := blk_frozen BK166.out 0; have hfz31_1 := blk_frozen BK166.out 1; have hfz31_2 := blk_frozen BK166.out 2; have hfz31_3 := blk_frozen BK166.out 3) | ((with_reducible refine look_builtin (b := .append) (xs := #[.tmp 55, .tmp 57]) rfl ?_); at_builtin; refine Kd.R_append k26 (w0 := w) w.heap.size rfl (.tmp 55) (.tmp 57) 22 26 (.agg #[(.int .i64 0), (.int .i64 0), (.string ⟨#[]⟩), (.string ⟨#[]⟩)]) 48 rfl Tryd.underlying22 info26 rfl (by decide) (by omega) u3 x3_1 (⟨((rd_T26 l0 x4_1).f0), ((rd_T26 l0 x4_1).f1), x167002_3, (⟨#[118]⟩ : ByteArray) ++ t174⟩ : S26) [.int .i64 ((rd_T26 l0 x4_1).f0), .int .i64 ((rd_T26 l0 x4_1).f1), .string x167002_3, .string ((⟨#[118]⟩ : ByteArray) ++ t174)] (fun k_ => k_ ≠ gb166) (fun _ => False) rfl (by first | (go_simp; done) | (go_simp; rfl)) ?aP (fun _ hk => hk.elim) ?aF ?aO ?aB ?aS ?aL ?_; (case aP => exact k26_mkM _ _ _ (⟨((rd_T26 l0 x4_1).f0), ((rd_T26 l0 x4_1).f1), x167002_3, (⟨#[118]⟩ : ByteArray) ++ t174⟩ : S26)); (case aB => exact (by repeat (first | (with_reducible first | exact HB.out | apply below_alloc | apply pw_below_drewN | apply below_drew1 | refine below_set ?_ GE166.out) | exact HB.out))); (case aF => exact (fun k_ hk => Kd.freshB (g := gb166) (o := .cells #[.int .i64 ((rd_T26 l0 x4_1).f0), .int .i64 ((rd_T26 l0 x4_1).f1), .string x167002_3, .string ((⟨#[118]⟩ : ByteArray) ++ t174)] 26 (0, 0)) (by (with_reducible repeat (first | refine blk_drewN ?_ _ | refine blk_drew ?_ | refine blk_alloc ?_ _)); refine blk_put (cs := #[.int .i64 ((rd_T26 l0 x4_1).f0), .int .i64 ((rd_T26 l0 x4_1).f1), .string x167002_3, .string ((rd_T26 l0 x4_1).f3)]) ?_ 3 _ rfl; (with_reducible repeat (first | refine blk_drewN ?_ _ | refine blk_drew ?_ | refine blk_alloc ?_ _)); exact BK166.out) k_ hk)); (case aO => exact (by (with_reducible repeat (first | apply Kd.R_alloc | apply Kd.R_drewN | apply Kd.R_drew)); exact Kd.R_mono (Kd.R_far (p := ⟨gb166, 3, none⟩) (Kd.R_mono HO_3.out (fun k_ hk => (⟨hk, hk⟩ : _ ∧ k_ ≠ gb166))) (fun _ hk => hk.2) (.string ((⟨#[118]⟩ : ByteArray) ++ t174))) (fun _ hk => hk.1))); (case aS => exact (below_size (by repeat (first | (with_reducible first | exact HB.out | apply below_alloc | apply pw_below_drewN | apply below_drew1 | refine below_set ?_ GE166.out) | exact HB.out)))); (case aL => have := LMc29.out; omega); intro v176 w32 ho hb hg hat; rw [← Ny175.out] at ho; have n0_ := Aside0.mk (blk_grown (g := gb166) (o := .cells #[.int .i64 ((rd_T26 l0 x4_1).f0), .int .i64 ((rd_T26 l0 x4_1).f1), .string x167002_3, .string ((⟨#[118]⟩ : ByteArray) ++ t174)] 26 (0, 0)) (by (with_reducible repeat (first | refine blk_drewN ?_ _ | refine blk_drew ?_ | refine blk_alloc ?_ _)); refine blk_put (cs := #[.int .i64 ((rd_T26 l0 x4_1).f0), .int .i64 ((rd_T26 l0 x4_1).f1), .string x167002_3, .string ((rd_T26 l0 x4_1).f3)]) ?_ 3 _ rfl; (with_reducible repeat (first | refine blk_drewN ?_ _ | refine blk_drew ?_ | refine blk_alloc ?_ _)); exact BK166.out) hg (Kd.R_away HO_3.out (fun _ hk => hk))); have n1_ := Aside0.mk (hb); have n2_ := Aside0.mk (ho); clear BK166; clear HB; clear HO_3; have BK166 := n0_; have HB := n1_; have HO177 := n2_; clear n0_ n1_ n2_; clear ho hb hg hat))
                                  repeat (go_quiet (first | (go_at_call 34; (with_reducible refine (cartoucheref07_figures.calls k3 x7_3 t174 _ A27.out).mono ?_); rintro e w30 ⟨rfl, hb⟩; have n0_ := Aside0.mk (Kd.R_below (by (with_reducible repeat (first | apply Kd.R_alloc | apply Kd.R_drewN | apply Kd.R_drew)); exact HO_3.out) hb); have n1_ := Aside0.mk (blk_below (g := gb166) (o := .cells #[.int .i64 ((rd_T26 l0 x4_1).f0), .int .i64 ((rd_T26 l0 x4_1).f1), .string x167002_3, .string ((rd_T26 l0 x4_1).f3)] 26 (0, 0)) (by (with_reducible repeat (first | refine blk_drewN ?_ _ | refine blk_drew ?_ | refine blk_alloc ?_ _)); exact BK166.out) hb); have n2_ := Aside0.mk (below_step (by repeat (first | (with_reducible first | exact HB.out | apply below_alloc | apply pw_below_drewN | apply below_drew1 | refine below_set ?_ GE166.out) | exact HB.out)) hb); clear HO_3; clear BK166; clear HB; have HO_3 := n0_; have BK166 := n1_; have HB := n2_; clear n0_ n1_ n2_; (try clear hb); (try clear hb2); (try clear hk); (try clear hi); have hcz31_0 : w30.cell? ⟨gb166, 0, none⟩ = some (.int .i64 ((rd_T26 l0 x4_1).f0)) := (blk_cell BK166.out 0).trans rfl; have hcz31_1 : w30.cell? ⟨gb166, 1, none⟩ = some (.int .i64 ((rd_T26 l0 x4_1).f1)) := (blk_cell BK166.out 1).trans rfl; have hcz31_2 : w30.cell? ⟨gb166, 2, none⟩ = some (.string x167002_3) := (blk_cell BK166.out 2).trans rfl; have hcz31_3 : w30.cell? ⟨gb166, 3, none⟩ = some (.string ((rd_T26 l0 x4_1).f3)) := (blk_cell BK166.out 3).trans rfl; have hfz31_0 := blk_frozen BK166.out 0; have hfz31_1 := blk_frozen BK166.out 1; have hfz31_2 := blk_frozen BK166.out 2; have hfz31_3 := blk_frozen BK166.out 3) | ((with_reducible refine look_builtin (b := .append) (xs := #[.tmp 55, .tmp 57]) rfl ?_); at_builtin; refine Kd.R_append k26 (w0 := w) w.heap.size rfl (.tmp 55) (.tmp 57) 22 26 (.agg #[(.int .i64 0), (.int .i64 0), (.string ⟨#[]⟩), (.string ⟨#[]⟩)]) 48 rfl Tryd.underlying22 info26 rfl (by decide) (by omega) u3 x3_1 (⟨((rd_T26 l0 x4_1).f0), ((rd_T26 l0 x4_1).f1), x167002_3, (⟨#[118]⟩ : ByteArray) ++ t174⟩ : S26) [.int .i64 ((rd_T26 l0 x4_1).f0), .int .i64 ((rd_T26 l0 x4_1).f1), .string x167002_3, .string ((⟨#[118]⟩ : ByteArray) ++ t174)] (fun k_ => k_ ≠ gb166) (fun _ => False) rfl (by first | (go_simp; done) | (go_simp; rfl)) ?aP (fun _ hk => hk.elim) ?aF ?aO ?aB ?aS ?aL ?_; (case aP => exact k26_mkM _ _ _ (⟨((rd_T26 l0 x4_1).f0), ((rd_T26 l0 x4_1).f1), x167002_3, (⟨#[118]⟩ : ByteArray) ++ t174⟩ : S26)); (case aB => exact (by repeat (first | (with_reducible first | exact HB.out | apply below_alloc | apply pw_below_drewN | apply below_drew1 | refine below_set ?_ GE166.out) | exact HB.out))); (case aF => exact (fun k_ hk => Kd.freshB (g := gb166) (o := .cells #[.int .i64 ((rd_T26 l0 x4_1).f0), .int .i64 ((rd_T26 l0 x4_1).f1), .string x167002_3, .string ((⟨#[118]⟩ : ByteArray) ++ t174)] 26 (0, 0)) (by (with_reducible repeat (first | refine blk_drewN ?_ _ | refine blk_drew ?_ | refine blk_alloc ?_ _)); refine blk_put (cs := #[.int .i64 ((rd_T26 l0 x4_1).f0), .int .i64 ((rd_T26 l0 x4_1).f1), .string x167002_3, .string ((rd_T26 l0 x4_1).f3)]) ?_ 3 _ rfl; (with_reducible repeat (first | refine blk_drewN ?_ _ | refine blk_drew ?_ | refine blk_alloc ?_ _)); exact BK166.out) k_ hk)); (case aO => exact (by (with_reducible repeat (first | apply Kd.R_alloc | apply Kd.R_drewN | apply Kd.R_drew)); exact Kd.R_mono (Kd.R_far (p := ⟨gb166, 3, none⟩) (Kd.R_mono HO_3.out (fun k_ hk => (⟨hk, hk⟩ : _ ∧ k_ ≠ gb166))) (fun _ hk => hk.2) (.string ((⟨#[118]⟩ : ByteArray) ++ t174))) (fun _ hk => hk.1))); (case aS => exact (below_size (by repeat (first | (with_reducible first | exact HB.out | apply below_alloc | apply pw_below_drewN | apply below_drew1 | refine below_set ?_ GE166.out) | exact HB.out)))); (case aL => have := LMc29.out; omega); intro v176 w32 ho hb hg hat; rw [← Ny175.out] at ho; have n0_ := Aside0.mk (blk_grown (g := gb166) (o := .cells #[.int .i64 ((rd_T26 l0 x4_1).f0), .int .i64 ((rd_T26 l0 x4_1).f1), .string x167002_3, .string ((⟨#[118]⟩ : ByteArray) ++ t174)] 26 (0, 0)) (by (with_reducible repeat (first | refine blk_drewN ?_ _ | refine blk_drew ?_ | refine blk_alloc ?_ _)); refine blk_put (cs := #[.int .i64 ((rd_T26 l0 x4_1).f0), .int .i64 ((rd_T26 l0 x4_1).f1), .string x167002_3, .string ((rd_T26 l0 x4_1).f3)]) ?_ 3 _ rfl; (with_reducible repeat (first | refine blk_drewN ?_ _ | refine blk_drew ?_ | refine blk_alloc ?_ _)); exact BK166.out) hg (Kd.R_away HO_3.out (fun _ hk => hk))); have n1_ := Aside0.mk (hb); have n2_ := Aside0.mk (ho); clear BK166; clear HB; clear HO_3; have BK166 := n0_; have HB := n1_; have HO177 := n2_; clear n0_ n1_ n2_; clear ho hb hg hat)); try go_wp2_with (first | (go_at_call 34; (with_reducible refine (cartoucheref07_figures.calls k3 x7_3 t174 _ A27.out).mono ?_); rintro e w30 ⟨rfl, hb⟩; have n0_ := Aside0.mk (Kd.R_below (by (with_reducible repeat (first | apply Kd.R_alloc | apply Kd.R_drewN | apply Kd.R_drew)); exact HO_3.out) hb); have n1_ := Aside0.mk (blk_below (g := gb166) (o := .cells #[.int .i64 ((rd_T26 l0 x4_1).f0), .int .i64 ((rd_T26 l0 x4_1).f1), .string x167002_3, .string ((rd_T26 l0 x4_1).f3)] 26 (0, 0)) (by (with_reducible repeat (first | refine blk_drewN ?_ _ | refine blk_drew ?_ | refine blk_alloc ?_ _)); exact BK166.out) hb); have n2_ := Aside0.mk (below_step (by repeat (first | (with_reducible first | exact HB.out | apply below_alloc | apply pw_below_drewN | apply below_drew1 | refine below_set ?_ GE166.out) | exact HB.out)) hb); clear HO_3; clear BK166; clear HB; have HO_3 := n0_; have BK166 := n1_; have HB := n2_; clear n0_ n1_ n2_; (try clear hb); (try clear hb2); (try clear hk); (try clear hi); have hcz31_0 : w30.cell? ⟨gb166, 0, none⟩ = some (.int .i64 ((rd_T26 l0 x4_1).f0)) := (blk_cell BK166.out 0).trans rfl; have hcz31_1 : w30.cell? ⟨gb166, 1, none⟩ = some (.int .i64 ((rd_T26 l0 x4_1).f1)) := (blk_cell BK166.out 1).trans rfl; have hcz31_2 : w30.cell? ⟨gb166, 2, none⟩ = some (.string x167002_3) := (blk_cell BK166.out 2).trans rfl; have hcz31_3 : w30.cell? ⟨gb166, 3, none⟩ = some (.string ((rd_T26 l0 x4_1).f3)) := (blk_cell BK166.out 3).trans rfl; have hfz31_0 := blk_frozen BK166.out 0; have hfz31_1 := blk_frozen BK166.out 1; have hfz31_2 := blk_frozen BK166.out 2; have hfz31_3 := blk_frozen BK166.out 3) | ((with_reducible refine look_builtin (b := .append) (xs := #[.tmp 55, .tmp 57]) rfl ?_); at_builtin; refine Kd.R_append k26 (w0 := w) w.heap.size rfl (.tmp 55) (.tmp 57) 22 26 (.agg #[(.int .i64 0), (.int .i64 0), (.string ⟨#[]⟩), (.string ⟨#[]⟩)]) 48 rfl Tryd.underlying22 info26 rfl (by decide) (by omega) u3 x3_1 (⟨((rd_T26 l0 x4_1).f0), ((rd_T26 l0 x4_1).f1), x167002_3, (⟨#[118]⟩ : ByteArray) ++ t174⟩ : S26) [.int .i64 ((rd_T26 l0 x4_1).f0), .int .i64 ((rd_T26 l0 x4_1).f1), .string x167002_3, .string ((⟨#[118]⟩ : ByteArray) ++ t174)] (fun k_ => k_ ≠ gb166) (fun _ => False) rfl (by first | (go_simp; done) | (go_simp; rfl)) ?aP (fun _ hk => hk.elim) ?aF ?aO ?aB ?aS ?aL ?_; (case aP => exact k26_mkM _ _ _ (⟨((rd_T26 l0 x4_1).f0), ((rd_T26 l0 x4_1).f1), x167002_3, (⟨#[118]⟩ : ByteArray) ++ t174⟩ : S26)); (case aB => exact (by repeat (first | (with_reducible first | exact HB.out | apply below_alloc | apply pw_below_drewN | apply below_drew1 | refine below_set ?_ GE166.out) | exact HB.out))); (case aF => exact (fun k_ hk => Kd.freshB (g := gb166) (o := .cells #[.int .i64 ((rd_T26 l0 x4_1).f0), .int .i64 ((rd_T26 l0 x4_1).f1), .string x167002_3, .string ((⟨#[118]⟩ : ByteArray) ++ t174)] 26 (0, 0)) (by (with_reducible repeat (first | refine blk_drewN ?_ _ | refine blk_drew ?_ | refine blk_alloc ?_ _)); refine blk_put (cs := #[.int .i64 ((rd_T26 l0 x4_1).f0), .int .i64 ((rd_T26 l0 x4_1).f1), .string x167002_3, .string ((rd_T26 l0 x4_1).f3)]) ?_ 3 _ rfl; (with_reducible repeat (first | refine blk_drewN ?_ _ | refine blk_drew ?_ | refine blk_alloc ?_ _)); exact BK166.out) k_ hk)); (case aO => exact (by (with_reducible repeat (first | apply Kd.R_alloc | apply Kd.R_drewN | apply Kd.R_drew)); exact Kd.R_mono (Kd.R_far (p := ⟨gb166, 3, none⟩) (Kd.R_mono HO_3.out (fun k_ hk => (⟨hk, hk⟩ : _ ∧ k_ ≠ gb166))) (fun _ hk => hk.2) (.string ((⟨#[118]⟩ : ByteArray) ++ t174))) (fun _ hk => hk.1))); (case aS => exact (below_size (by repeat (first | (with_reducible first | exact HB.out | apply below_alloc | apply pw_below_drewN | apply below_drew1 | refine below_set ?_ GE166.out) | exact HB.out)))); (case aL => have := LMc29.out; omega); intro v176 w32 ho hb hg hat; rw [← Ny175.out] at ho; have n0_ := Aside0.mk (blk_grown (g := gb166) (o := .cells #[.int .i64 ((rd_T26 l0 x4_1).f0), .int .i64 ((rd_T26 l0 x4_1).f1), .string x167002_3, .string ((⟨#[118]⟩ : ByteArray) ++ t174)] 26 (0, 0)) (by (with_reducible repeat (first | refine blk_drewN ?_ _ | refine blk_drew ?_ | refine blk_alloc ?_ _)); refine blk_put (cs := #[.int .i64 ((rd_T26 l0 x4_1).f0), .int .i64 ((rd_T26 l0 x4_1).f1), .string x167002_3, .string ((rd_T26 l0 x4_1).f3)]) ?_ 3 _ rfl; (with_reducible repeat (first | refine blk_drewN ?_ _ | refine blk_drew ?_ | refine blk_alloc ?_ _)); exact BK166.out) hg (Kd.R_away HO_3.out (fun _ hk => hk))); have n1_ := Aside0.mk (hb); have n2_ := Aside0.mk (ho); clear BK166; clear HB; clear HO_3; have BK166 := n0_; have HB := n1_; have HO177 := n2_; clear n0_ n1_ n2_; clear ho hb hg hat)))
                                  go_roundg k3
                                  case measure => have := HK1.out; have := HJ3.out; have := HK3.out; omega
                                  case rel => exact ⟨(y175), (wrap64 (x4_1 + 1)), (by first | rfl | (simp; done) | (simp [*]; done)), H', ⟨by have := HK1.out; have := HJ3.out; have := HK3.out; omega⟩, ⟨by (with_reducible repeat (first | apply Kd.R_alloc | apply Kd.R_drewN | apply Kd.R_drew)); exact Kd.R_mono HO177.out (fun _ hk => trivial)⟩, ⟨by repeat (first | (with_reducible first | exact HB.out | apply below_alloc | apply pw_below_drewN | apply below_drew1 | refine below_set ?_ GE166.out) | exact HB.out)⟩⟩
                                · rw [if_neg c29] at H
                                  exact absurd H (by simp)
                              · rw [if_neg c28] at H
                                exact absurd H (by simp)
                            · rw [if_neg c26] at H
                              have c26b0 : (((rd_T26 l0 x7_3).f3).toList == ((rd_T26 l0 x4_1).f3).toList) = false := beq_eq_false_iff_ne.mpr c26
                              have c26b1 : (((rd_T26 l0 x7_3).f3).toList != ((rd_T26 l0 x4_1).f3).toList) = true := bne_iff_ne.mpr c26
                              have H' := Aside0.mk H
                              clear H
                              have p172 : 0 ≤ (x7_3 : Int) := of_decide_eq_true (by first | (with_reducible assumption) | assumption)
                              have q172 : x7_3 < (l0.length : Int) := of_decide_eq_true (by first | (with_reducible assumption) | assumption)
                              obtain ⟨ad172, e172, hx172_0, hx172_1, hx172_2, hx172_3⟩ := at_T26 HR0.out x7_3 p172 q172
                              obtain rfl : ad165 = ad172 := (by injection e172)
                              replace hx172_0 := (HB.out.cell (World.block_lt_of_cell? w _ hx172_0)).trans hx172_0
                              replace hx172_1 := (HB.out.cell (World.block_lt_of_cell? w _ hx172_1)).trans hx172_1
                              replace hx172_2 := (HB.out.cell (World.block_lt_of_cell? w _ hx172_2)).trans hx172_2
                              replace hx172_3 := (HB.out.cell (World.block_lt_of_cell? w _ hx172_3)).trans hx172_3
                              replace p172 := eq_true p172
                              replace q172 := eq_true q172
                              have p173 : 0 ≤ (x4_1 : Int) := of_decide_eq_true (by first | (with_reducible assumption) | assumption)
                              have q173 : x4_1 < (l0.length : Int) := of_decide_eq_true (by first | (with_reducible assumption) | assumption)
                              obtain ⟨ad173, e173, hx173_0, hx173_1, hx173_2, hx173_3⟩ := at_T26 HR0.out x4_1 p173 q173
                              obtain rfl : ad165 = ad173 := (by injection e173)
                              replace hx173_0 := (HB.out.cell (World.block_lt_of_cell? w _ hx173_0)).trans hx173_0
                              replace hx173_1 := (HB.out.cell (World.block_lt_of_cell? w _ hx173_1)).trans hx173_1
                              replace hx173_2 := (HB.out.cell (World.block_lt_of_cell? w _ hx173_2)).trans hx173_2
                              replace hx173_3 := (HB.out.cell (World.block_lt_of_cell? w _ hx173_3)).trans hx173_3
                              replace p173 := eq_true p173
                              replace q173 := eq_true q173
                              go_wp2
                              repeat (go_quiet (fail); try go_wp2)
                              go_roundg k3
                              case measure => have := HK1.out; have := HJ3.out; have := HK3.out; omega
                              case rel => exact ⟨(wrap64 (x7_3 + 1)), (by first | rfl | (simp; done) | (simp [*]; done)), H', ⟨by have := HK1.out; have := HJ3.out; have := HK3.out; omega⟩, ⟨by (with_reducible repeat (first | apply Kd.R_alloc | apply Kd.R_drewN | apply Kd.R_drew)); exact HO_3.out⟩, ⟨by (with_reducible repeat (first | refine blk_drewN ?_ _ | refine blk_drew ?_ | refine blk_alloc ?_ _)); exact BK166.out⟩, ⟨by repeat (first | (with_reducible first | exact HB.out | apply below_alloc | apply pw_below_drewN | apply below_drew1 | refine below_set ?_ GE166.out) | exact HB.out)⟩⟩
                          · rw [if_neg c25] at H
                            exact absurd H (by simp)
                        · rw [if_neg c24] at H
                          exact absurd H (by simp)
                      · rw [if_neg c23] at H
                        exact absurd H (by simp)
                    · rw [if_neg c22] at H
                      exact absurd H (by simp)
        · rw [if_neg c3] at H
          exact absurd H (by simp)
      · rw [if_neg c2] at H
        have c2b0 : decide (x4_1 < (l0.length : Int)) = false := decide_eq_false c2
        clear c2
        obtain rfl := Option.some.inj H
        go_wp2
        repeat (go_quiet (fail); try go_wp2)
        go_ret
        exact ⟨_, by first | rfl | (simp [errW_none, errW_some] <;> rfl) | (simp [*, errW_none, errW_some] <;> rfl), by (with_reducible repeat (first | apply Kd.R_alloc | apply Kd.R_drewN | apply Kd.R_drew)); exact HO_3.out, by repeat (first | (with_reducible first | exact HB.out | apply below_alloc | apply pw_below_drewN | apply below_drew1) | exact HB.out)⟩

-- NOT PRINTED: function 35 (redact_twins)

-- NOT PRINTED: function 36 (redact_inputs)

-- NOT PRINTED: function 23 (redact_Twins)

/-! ### cartoucheref07_twins: function 39 -/
mutual
def cartoucheref07_twins.l0 : Nat → ByteArray → List ByteArray → Int → Option (ByteArray × ByteArray × Bool)
  | 0, _, _, _ => none
  | k + 1, x0, x1, x7 => if x7 < (x1.length : Int) then (cartoucheref07_twins.l1 k x0 x1 x7 0) else (some ((⟨#[]⟩ : ByteArray), (⟨#[]⟩ : ByteArray), false))
def cartoucheref07_twins.l1 : Nat → ByteArray → List ByteArray → Int → Int → Option (ByteArray × ByteArray × Bool)
  | 0, _, _, _, _ => none
  | k + 1, x0, x1, x7, x8 => if x8 < x7 then (if 0 ≤ x7 then (if x7 < (x1.length : Int) then (if (rdOf ByteArray.empty x1 x7).toList = ([] : List UInt8) then (cartoucheref07_twins.j2 k x0 x1 x7 x8 true) else (if 0 ≤ x8 then (if x8 < (x1.length : Int) then (if (rdOf ByteArray.empty x1 x8).toList = ([] : List UInt8) then (cartoucheref07_twins.j2 k x0 x1 x7 x8 true) else (cartoucheref07_twins.j2 k x0 x1 x7 x8 ((rdOf ByteArray.empty x1 x7).toList == (rdOf ByteArray.empty x1 x8).toList))) else (none)) else (none))) else (none)) else (none)) else (cartoucheref07_twins.l0 k x0 x1 (wrap64 (x7 + 1)))
def cartoucheref07_twins.j2 : Nat → ByteArray → List ByteArray → Int → Int → Bool → Option (ByteArray × ByteArray × Bool)
  | 0, _, _, _, _, _ => none
  | k + 1, x0, x1, x7, x8, x46 => if x46 = true then (cartoucheref07_twins.l1 k x0 x1 x7 (wrap64 (x8 + 1))) else (if 0 ≤ x7 then (if x7 < (x1.length : Int) then ((cartoucheref02_Keyed.f x0 (rdOf ByteArray.empty x1 x7)).bind fun bt191 => (if 0 ≤ x8 then (if x8 < (x1.length : Int) then ((cartoucheref02_Keyed.f x0 (rdOf ByteArray.empty x1 x8)).bind fun bt194 => (if bt191.1.toList = bt194.1.toList then (some (rdOf ByteArray.empty x1 x8, rdOf ByteArray.empty x1 x7, true)) else (cartoucheref07_twins.l1 k x0 x1 x7 (wrap64 (x8 + 1))))) else (none)) else (none))) else (none)) else (none))
end
def cartoucheref07_twins.f (k : Nat) (a0 : ByteArray) (l1 : List ByteArray) : Option (ByteArray × ByteArray × Bool) := cartoucheref07_twins.l0 k a0 l1 0
theorem cartoucheref07_twins.mono_l : ∀ k, (∀ y0 y1 y2, LeO (cartoucheref07_twins.l0 k y0 y1 y2) (cartoucheref07_twins.l0 (k + 1) y0 y1 y2)) ∧ (∀ y0 y1 y2 y3, LeO (cartoucheref07_twins.l1 k y0 y1 y2 y3) (cartoucheref07_twins.l1 (k + 1) y0 y1 y2 y3)) ∧ (∀ y0 y1 y2 y3 y4, LeO (cartoucheref07_twins.j2 k y0 y1 y2 y3 y4) (cartoucheref07_twins.j2 (k + 1) y0 y1 y2 y3 y4))
  | 0 => ⟨fun _ _ _ r h => by simp [cartoucheref07_twins.l0] at h, fun _ _ _ _ r h => by simp [cartoucheref07_twins.l1] at h, fun _ _ _ _ _ r h => by simp [cartoucheref07_twins.j2] at h⟩
  | k + 1 => by
    obtain ⟨ih0, ih1, ih2⟩ := cartoucheref07_twins.mono_l k
    refine ⟨?_, ?_, ?_⟩
    · intro y0 y1 y2
      unfold cartoucheref07_twins.l0
      repeat' first
      | (with_reducible exact ih0 _ _ _)
      | (with_reducible exact ih1 _ _ _ _)
      | (with_reducible exact ih2 _ _ _ _ _)
      | (with_reducible exact LeO.refl _)
      | (with_reducible exact LeO.none _)
      | (with_reducible refine LeO.ite ?_ ?_)
      | (with_reducible refine LeO.bind ?_ (fun _ => ?_))
      | exact ih0 _ _ _
      | exact ih1 _ _ _ _
      | exact ih2 _ _ _ _ _
      | exact LeO.none _
      | refine LeO.ite ?_ ?_
      | refine LeO.bind ?_ (fun _ => ?_)
    · intro y0 y1 y2 y3
      unfold cartoucheref07_twins.l1
      repeat' first
      | (with_reducible exact ih0 _ _ _)
      | (with_reducible exact ih1 _ _ _ _)
      | (with_reducible exact ih2 _ _ _ _ _)
      | (with_reducible exact LeO.refl _)
      | (with_reducible exact LeO.none _)
      | (with_reducible refine LeO.ite ?_ ?_)
      | (with_reducible refine LeO.bind ?_ (fun _ => ?_))
      | exact ih0 _ _ _
      | exact ih1 _ _ _ _
      | exact ih2 _ _ _ _ _
      | exact LeO.none _
      | refine LeO.ite ?_ ?_
      | refine LeO.bind ?_ (fun _ => ?_)
    · intro y0 y1 y2 y3 y4
      unfold cartoucheref07_twins.j2
      repeat' first
      | (with_reducible exact ih0 _ _ _)
      | (with_reducible exact ih1 _ _ _ _)
      | (with_reducible exact ih2 _ _ _ _ _)
      | (with_reducible exact LeO.refl _)
      | (with_reducible exact LeO.none _)
      | (with_reducible refine LeO.ite ?_ ?_)
      | (with_reducible refine LeO.bind ?_ (fun _ => ?_))
      | exact ih0 _ _ _
      | exact ih1 _ _ _ _
      | exact ih2 _ _ _ _ _
      | exact LeO.none _
      | refine LeO.ite ?_ ?_
      | refine LeO.bind ?_ (fun _ => ?_)
theorem cartoucheref07_twins.mono : ∀ a0 a1 k, LeO (cartoucheref07_twins.f k a0 a1) (cartoucheref07_twins.f (k + 1) a0 a1) := by
  intro a0 a1 k
  obtain ⟨ih0, ih1, ih2⟩ := cartoucheref07_twins.mono_l k
  unfold cartoucheref07_twins.f
  repeat' first
      | (with_reducible exact ih0 _ _ _)
      | (with_reducible exact ih1 _ _ _ _)
      | (with_reducible exact ih2 _ _ _ _ _)
      | (with_reducible exact LeO.refl _)
      | (with_reducible exact LeO.none _)
      | (with_reducible refine LeO.ite ?_ ?_)
      | (with_reducible refine LeO.bind ?_ (fun _ => ?_))
      | exact ih0 _ _ _
      | exact ih1 _ _ _ _
      | exact ih2 _ _ _ _ _
      | exact LeO.none _
      | refine LeO.ite ?_ ?_
      | refine LeO.bind ?_ (fun _ => ?_)
set_option maxHeartbeats 8000000 in
set_option maxRecDepth 100000 in
theorem cartoucheref07_twins.calls (k : Nat) (a0 : ByteArray) (A1 : Option Addr) (c1 : Nat) (l1 : List ByteArray) (r1 : ByteArray) (r2 : ByteArray) (r3 : Bool) (w : World) (hr1 : Kd.C Kd.string w A1 l1.length l1) (hc1 : l1.length ≤ c1) (h : cartoucheref07_twins.f k a0 l1 = some (r1, r2, r3)) :
    Calls Tryd.prog 39 #[.string a0, .slice A1 l1.length c1] w fun e w' => e = .returned (.tuple #[.string r1, .string r2, .bool r3]) ∧ Below w.heap.size w w' := by
  have HR1 := Aside0.mk hr1
  have HC1 := Aside0.mk hc1
  clear hr1 hc1
  have HB := Aside0.mk (Below.refl w.heap.size w)
  have H : (cartoucheref07_twins.l0 k a0 l1 0) = some (r1, r2, r3) := h
  clear h
  have H' := Aside0.mk H
  clear H
  go_enter Tryd.func39, Tryd.ntmps39
  go_wp2
  repeat (go_quiet (fail); try go_wp2)
  go_loopg [7] k (fun kq v7 w' => ∃ (x7_1 : Int), v7 = .int .i64 x7_1 ∧ Aside0 (cartoucheref07_twins.l0 kq a0 l1 x7_1 = some (r1, r2, r3)) ∧ Aside0 (kq ≤ k) ∧ Aside0 (Below w.heap.size w w'))
  case atStart => exact ⟨(0), (by first | rfl | (simp; done) | (simp [*]; done)), H', ⟨Nat.le_refl _⟩, ⟨by repeat (first | (with_reducible first | exact HB.out | apply below_alloc | apply pw_below_drewN | apply below_drew1) | exact HB.out)⟩⟩
  case round =>
    clear H'
    try clear c1
    try clear p2
    obtain ⟨x7_1, rfl, HA, HK1, HB⟩ := hrel
    cases gk with
    | zero => exact absurd HA.out (by simp [cartoucheref07_twins.l0])
    | succ k1 =>
      have H := HA.out
      clear HA
      simp only [cartoucheref07_twins.l0] at H
      by_cases c3 : x7_1 < (l1.length : Int)
      · rw [if_pos c3] at H
        have c3b0 : decide (x7_1 < (l1.length : Int)) = true := decide_eq_true c3
        clear c3
        have H' := Aside0.mk H
        clear H
        go_wp2
        repeat (go_quiet (fail); try go_wp2)
        go_loopg [8] k1 (fun kq v8 w' => ∃ (x8_2 : Int), v8 = .int .i64 x8_2 ∧ Aside0 (cartoucheref07_twins.l1 kq a0 l1 x7_1 x8_2 = some (r1, r2, r3)) ∧ Aside0 (kq ≤ k1) ∧ Aside0 (Below w.heap.size w w'))
        case atStart => exact ⟨(0), (by first | rfl | (simp; done) | (simp [*]; done)), H', ⟨Nat.le_refl _⟩, ⟨by repeat (first | (with_reducible first | exact HB.out | apply below_alloc | apply pw_below_drewN | apply below_drew1) | exact HB.out)⟩⟩
        case round =>
          clear H'
          try clear c1
          try clear p2
          try clear c3
          try clear c3b0
          try clear p2
          obtain ⟨x8_2, rfl, HA, HK2, HB⟩ := hrel
          cases gk with
          | zero => exact absurd HA.out (by simp [cartoucheref07_twins.l1])
          | succ k2 =>
            have H := HA.out
            clear HA
            simp only [cartoucheref07_twins.l1] at H
            by_cases c4 : x8_2 < x7_1
            · rw [if_pos c4] at H
              have c4b0 : decide (x8_2 < x7_1) = true := decide_eq_true c4
              clear c4
              have HC5 := Aside0.mk H
              clear H
              go_upto_region 7 with (fail)
              repeat (go_quiet (fail); go_upto_region 7 with (fail))
              go_cut [46] (fun v46 wc => ∃ (kq : Nat) (x46_4 : Bool), v46 = .bool x46_4 ∧ Aside0 (cartoucheref07_twins.j2 kq a0 l1 x7_1 x8_2 x46_4 = some (r1, r2, r3)) ∧ Aside0 (kq ≤ k2) ∧ Aside0 (Below w.heap.size w wc))
              case first =>
                have H := HC5.out
                clear HC5
                by_cases c6 : 0 ≤ x7_1
                · rw [if_pos c6] at H
                  have c6b0 : decide (0 ≤ x7_1) = true := decide_eq_true c6
                  clear c6
                  (first | rw [c6b0] | (simp only [i64_w, i32_w]; rw [c6b0]) | skip)
                  by_cases c7 : x7_1 < (l1.length : Int)
                  · rw [if_pos c7] at H
                    have c7b0 : decide (x7_1 < (l1.length : Int)) = true := decide_eq_true c7
                    clear c7
                    by_cases c8 : (rdOf ByteArray.empty l1 x7_1).toList = ([] : List UInt8)
                    · rw [if_pos c8] at H
                      have c8b0 : ((rdOf ByteArray.empty l1 x7_1).toList == ([] : List UInt8)) = true := beq_iff_eq.mpr c8
                      have c8b2 : ((rdOf ByteArray.empty l1 x7_1).toList).isEmpty = true := List.isEmpty_iff.mpr c8
                      have c8b1 : ((rdOf ByteArray.empty l1 x7_1).toList != ([] : List UInt8)) = false := bne_eq_false_iff_eq.mpr c8
                      clear c8
                      have H' := Aside0.mk H
                      clear H
                      have p186 : 0 ≤ (x7_1 : Int) := of_decide_eq_true (by first | (with_reducible assumption) | assumption)
                      have q186 : x7_1 < (l1.length : Int) := of_decide_eq_true (by first | (with_reducible assumption) | assumption)
                      obtain ⟨ad186, e186, hx186_0⟩ := Kd.at_string HR1.out x7_1 p186 q186
                      cases e186
                      replace hx186_0 := (HB.out.cell (World.block_lt_of_cell? w _ hx186_0)).trans hx186_0
                      replace p186 := eq_true p186
                      replace q186 := eq_true q186
                      go_wp2
                      repeat (go_quiet (fail); try go_wp2)
                      go_meet
                      case rel => exact ⟨_, (true), (by first | rfl | (simp; done) | (simp [*]; done)), H', ⟨by have := HK1.out; have := HK2.out; first | omega | exact Nat.le_refl _⟩, ⟨by repeat (first | (with_reducible first | exact HB.out | apply below_alloc | apply pw_below_drewN | apply below_drew1) | exact HB.out)⟩⟩
                    · rw [if_neg c8] at H
                      have c8b0 : ((rdOf ByteArray.empty l1 x7_1).toList == ([] : List UInt8)) = false := beq_eq_false_iff_ne.mpr c8
                      have c8b2 : ((rdOf ByteArray.empty l1 x7_1).toList).isEmpty = false := (by rw [← Bool.not_eq_true, List.isEmpty_iff]; exact c8)
                      have c8b1 : ((rdOf ByteArray.empty l1 x7_1).toList != ([] : List UInt8)) = true := bne_iff_ne.mpr c8
                      by_cases c9 : 0 ≤ x8_2
                      · rw [if_pos c9] at H
                        have c9b0 : decide (0 ≤ x8_2) = true := decide_eq_true c9
                        clear c9
                        by_cases c10 : x8_2 < (l1.length : Int)
                        · rw [if_pos c10] at H
                          have c10b0 : decide (x8_2 < (l1.length : Int)) = true := decide_eq_true c10
                          clear c10
                          by_cases c11 : (rdOf ByteArray.empty l1 x8_2).toList = ([] : List UInt8)
                          · rw [if_pos c11] at H
                            have c11b0 : ((rdOf ByteArray.empty l1 x8_2).toList == ([] : List UInt8)) = true := beq_iff_eq.mpr c11
                            have c11b2 : ((rdOf ByteArray.empty l1 x8_2).toList).isEmpty = true := List.isEmpty_iff.mpr c11
                            have c11b1 : ((rdOf ByteArray.empty l1 x8_2).toList != ([] : List UInt8)) = false := bne_eq_false_iff_eq.mpr c11
                            clear c11
                            have H' := Aside0.mk H
                            clear H
                            have p186 : 0 ≤ (x7_1 : Int) := of_decide_eq_true (by first | (with_reducible assumption) | assumption)
                            have q186 : x7_1 < (l1.length : Int) := of_decide_eq_true (by first | (with_reducible assumption) | assumption)
                            obtain ⟨ad186, e186, hx186_0⟩ := Kd.at_string HR1.out x7_1 p186 q186
                            cases e186
                            replace hx186_0 := (HB.out.cell (World.block_lt_of_cell? w _ hx186_0)).trans hx186_0
                            replace p186 := eq_true p186
                            replace q186 := eq_true q186
                            have p187 : 0 ≤ (x8_2 : Int) := of_decide_eq_true (by first | (with_reducible assumption) | assumption)
                            have q187 : x8_2 < (l1.length : Int) := of_decide_eq_true (by first | (with_reducible assumption) | assumption)
                            obtain ⟨ad187, e187, hx187_0⟩ := Kd.at_string HR1.out x8_2 p187 q187
                            obtain rfl : ad186 = ad187 := (by injection e187)
                            replace hx187_0 := (HB.out.cell (World.block_lt_of_cell? w _ hx187_0)).trans hx187_0
                            replace p187 := eq_true p187
                            replace q187 := eq_true q187
                            go_wp2
                            repeat (go_quiet (fail); try go_wp2)
                            go_meet
                            case rel => exact ⟨_, (true), (by first | rfl | (simp; done) | (simp [*]; done)), H', ⟨by have := HK1.out; have := HK2.out; first | omega | exact Nat.le_refl _⟩, ⟨by repeat (first | (with_reducible first | exact HB.out | apply below_alloc | apply pw_below_drewN | apply below_drew1) | exact HB.out)⟩⟩
                          · rw [if_neg c11] at H
                            have c11b0 : ((rdOf ByteArray.empty l1 x8_2).toList == ([] : List UInt8)) = false := beq_eq_false_iff_ne.mpr c11
                            have c11b2 : ((rdOf ByteArray.empty l1 x8_2).toList).isEmpty = false := (by rw [← Bool.not_eq_true, List.isEmpty_iff]; exact c11)
                            have c11b1 : ((rdOf ByteArray.empty l1 x8_2).toList != ([] : List UInt8)) = true := bne_iff_ne.mpr c11
                            have H' := Aside0.mk H
                            clear H
                            have p186 : 0 ≤ (x7_1 : Int) := of_decide_eq_true (by first | (with_reducible assumption) | assumption)
                            have q186 : x7_1 < (l1.length : Int) := of_decide_eq_true (by first | (with_reducible assumption) | assumption)
                            obtain ⟨ad186, e186, hx186_0⟩ := Kd.at_string HR1.out x7_1 p186 q186
                            cases e186
                            replace hx186_0 := (HB.out.cell (World.block_lt_of_cell? w _ hx186_0)).trans hx186_0
                            replace p186 := eq_true p186
                            replace q186 := eq_true q186
                            have p187 : 0 ≤ (x8_2 : Int) := of_decide_eq_true (by first | (with_reducible assumption) | assumption)
                            have q187 : x8_2 < (l1.length : Int) := of_decide_eq_true (by first | (with_reducible assumption) | assumption)
                            obtain ⟨ad187, e187, hx187_0⟩ := Kd.at_string HR1.out x8_2 p187 q187
                            obtain rfl : ad186 = ad187 := (by injection e187)
                            replace hx187_0 := (HB.out.cell (World.block_lt_of_cell? w _ hx187_0)).trans hx187_0
                            replace p187 := eq_true p187
                            replace q187 := eq_true q187
                            have p188 : 0 ≤ (x7_1 : Int) := of_decide_eq_true (by first | (with_reducible assumption) | assumption)
                            have q188 : x7_1 < (l1.length : Int) := of_decide_eq_true (by first | (with_reducible assumption) | assumption)
                            obtain ⟨ad188, e188, hx188_0⟩ := Kd.at_string HR1.out x7_1 p188 q188
                            obtain rfl : ad186 = ad188 := (by injection e188)
                            replace hx188_0 := (HB.out.cell (World.block_lt_of_cell? w _ hx188_0)).trans hx188_0
                            replace p188 := eq_true p188
                            replace q188 := eq_true q188
                            have p189 : 0 ≤ (x8_2 : Int) := of_decide_eq_true (by first | (with_reducible assumption) | assumption)
                            have q189 : x8_2 < (l1.length : Int) := of_decide_eq_true (by first | (with_reducible assumption) | assumption)
                            obtain ⟨ad189, e189, hx189_0⟩ := Kd.at_string HR1.out x8_2 p189 q189
                            obtain rfl : ad186 = ad189 := (by injection e189)
                            replace hx189_0 := (HB.out.cell (World.block_lt_of_cell? w _ hx189_0)).trans hx189_0
                            replace p189 := eq_true p189
                            replace q189 := eq_true q189
                            go_wp2
                            repeat (go_quiet (fail); try go_wp2)
                            go_meet
                            case rel => exact ⟨_, (((rdOf ByteArray.empty l1 x7_1).toList == (rdOf ByteArray.empty l1 x8_2).toList)), (by first | rfl | (simp; done) | (simp [*]; done)), H', ⟨by have := HK1.out; have := HK2.out; first | omega | exact Nat.le_refl _⟩, ⟨by repeat (first | (with_reducible first | exact HB.out | apply below_alloc | apply pw_below_drewN | apply below_drew1) | exact HB.out)⟩⟩
                        · rw [if_neg c10] at H
                          exact absurd H (by simp)
                      · rw [if_neg c9] at H
                        exact absurd H (by simp)
                  · rw [if_neg c7] at H
                    exact absurd H (by simp)
                · rw [if_neg c6] at H
                  exact absurd H (by simp)
              case rest =>
                clear HC5
                try clear c1
                try clear p1
                try clear q1
                try clear hx1
                try clear p2
                try clear c3
                try clear c3b0
                try clear c4
                try clear c4b0
                try clear c6
                try clear c6b0
                try clear c7
                try clear c7b0
                try clear c8
                try clear c8b0
                try clear c8b1
                try clear c9
                try clear c9b0
                try clear c10
                try clear c10b0
                try clear c11
                try clear c11b0
                try clear c11b1
                try clear hx186_0
                try clear hx187_0
                try clear hx188_0
                try clear hx189_0
                try clear p186
                try clear p187
                try clear p188
                try clear p189
                try clear p2
                try clear q186
                try clear q187
                try clear q188
                try clear q189
                obtain ⟨kq, x46_4, rfl, HA, HJ4, HB⟩ := hcut
                cases kq with
                | zero => exact absurd HA.out (by simp [cartoucheref07_twins.j2])
                | succ kj4 =>
                  have H := HA.out
                  clear HA
                  simp only [cartoucheref07_twins.j2] at H
                  by_cases c12 : x46_4 = true
                  · subst c12
                    have H1 : (cartoucheref07_twins.l1 kj4 a0 l1 x7_1 (wrap64 (x8_2 + 1))) = some (r1, r2, r3) := by rw [if_pos rfl] at H; exact H
                    clear H
                    have H := H1
                    clear H1
                    have H' := Aside0.mk H
                    clear H
                    go_wp2
                    repeat (go_quiet (fail); try go_wp2)
                    go_roundg kj4
                    case measure => have := HK1.out; have := HK2.out; have := HJ4.out; omega
                    case rel => exact ⟨(wrap64 (x8_2 + 1)), (by first | rfl | (simp; done) | (simp [*]; done)), H', ⟨by have := HK1.out; have := HK2.out; have := HJ4.out; omega⟩, ⟨by repeat (first | (with_reducible first | exact HB.out | apply below_alloc | apply pw_below_drewN | apply below_drew1) | exact HB.out)⟩⟩
                  · replace c12 := Bool.eq_false_iff.mpr c12
                    subst c12
                    have H1 : (if 0 ≤ x7_1 then (if x7_1 < (l1.length : Int) then ((cartoucheref02_Keyed.f a0 (rdOf ByteArray.empty l1 x7_1)).bind fun bt191 => (if 0 ≤ x8_2 then (if x8_2 < (l1.length : Int) then ((cartoucheref02_Keyed.f a0 (rdOf ByteArray.empty l1 x8_2)).bind fun bt194 => (if bt191.1.toList = bt194.1.toList then (some (rdOf ByteArray.empty l1 x8_2, rdOf ByteArray.empty l1 x7_1, true)) else (cartoucheref07_twins.l1 kj4 a0 l1 x7_1 (wrap64 (x8_2 + 1))))) else (none)) else (none))) else (none)) else (none)) = some (r1, r2, r3) := by rw [if_neg (show ¬ (false = true) by decide)] at H; exact H
                    clear H
                    have H := H1
                    clear H1
                    by_cases c13 : 0 ≤ x7_1
                    · rw [if_pos c13] at H
                      have c13b0 : decide (0 ≤ x7_1) = true := decide_eq_true c13
                      clear c13
                      by_cases c14 : x7_1 < (l1.length : Int)
                      · rw [if_pos c14] at H
                        have c14b0 : decide (x7_1 < (l1.length : Int)) = true := decide_eq_true c14
                        clear c14
                        replace H := Option.bind_eq_some_iff.mp H
                        obtain ⟨⟨t191, t192⟩, A150, H⟩ := H
                        replace H : (if 0 ≤ x8_2 then (if x8_2 < (l1.length : Int) then ((cartoucheref02_Keyed.f a0 (rdOf ByteArray.empty l1 x8_2)).bind fun bt194 => (if t191.toList = bt194.1.toList then (some (rdOf ByteArray.empty l1 x8_2, rdOf ByteArray.empty l1 x7_1, true)) else (cartoucheref07_twins.l1 kj4 a0 l1 x7_1 (wrap64 (x8_2 + 1))))) else (none)) else (none)) = some (r1, r2, r3) := H
                        have A15 := Aside0.mk A150
                        clear A150
                        by_cases c16 : 0 ≤ x8_2
                        · rw [if_pos c16] at H
                          have c16b0 : decide (0 ≤ x8_2) = true := decide_eq_true c16
                          clear c16
                          by_cases c17 : x8_2 < (l1.length : Int)
                          · rw [if_pos c17] at H
                            have c17b0 : decide (x8_2 < (l1.length : Int)) = true := decide_eq_true c17
                            clear c17
                            replace H := Option.bind_eq_some_iff.mp H
                            obtain ⟨⟨t194, t195⟩, A180, H⟩ := H
                            replace H : (if t191.toList = t194.toList then (some (rdOf ByteArray.empty l1 x8_2, rdOf ByteArray.empty l1 x7_1, true)) else (cartoucheref07_twins.l1 kj4 a0 l1 x7_1 (wrap64 (x8_2 + 1)))) = some (r1, r2, r3) := H
                            have A18 := Aside0.mk A180
                            clear A180
                            by_cases c19 : t191.toList = t194.toList
                            · rw [if_pos c19] at H
                              have c19b0 : (t191.toList == t194.toList) = true := beq_iff_eq.mpr c19
                              have c19b1 : (t191.toList != t194.toList) = false := bne_eq_false_iff_eq.mpr c19
                              clear c19
                              simp only [Option.some.injEq, Prod.mk.injEq] at H
                              obtain ⟨rfl, rfl, rfl⟩ := H
                              have p190 : 0 ≤ (x7_1 : Int) := of_decide_eq_true (by first | (with_reducible assumption) | assumption)
                              have q190 : x7_1 < (l1.length : Int) := of_decide_eq_true (by first | (with_reducible assumption) | assumption)
                              obtain ⟨ad190, e190, hx190_0⟩ := Kd.at_string HR1.out x7_1 p190 q190
                              cases e190
                              replace hx190_0 := (HB.out.cell (World.block_lt_of_cell? w _ hx190_0)).trans hx190_0
                              replace p190 := eq_true p190
                              replace q190 := eq_true q190
                              go_wp2_with (first | (go_at_call 30; (with_reducible refine (cartoucheref02_Keyed.calls a0 (rdOf ByteArray.empty l1 x7_1) t191 t192 _ A15.out).mono ?_); rintro e w20 ⟨rfl, hb⟩; have n0_ := Aside0.mk (below_step (by repeat (first | (with_reducible first | exact HB.out | apply below_alloc | apply pw_below_drewN | apply below_drew1) | exact HB.out)) hb); clear HB; have HB := n0_; clear n0_; (try clear hb); (try clear hb2); (try clear hk); (try clear hi); have p193 : 0 ≤ (x8_2 : Int) := of_decide_eq_true (by first | (with_reducible assumption) | assumption); have q193 : x8_2 < (l1.length : Int) := of_decide_eq_true (by first | (with_reducible assumption) | assumption); obtain ⟨ad193, e193, hx193_0⟩ := Kd.at_string HR1.out x8_2 p193 q193; obtain rfl : ad190 = ad193 := (by injection e193); replace hx193_0 := (HB.out.cell (World.block_lt_of_cell? w _ hx193_0)).trans hx193_0; replace p193 := eq_true p193; replace q193 := eq_true q193) | (go_at_call 30; (with_reducible refine (cartoucheref02_Keyed.calls a0 (rdOf ByteArray.empty l1 x8_2) t194 t195 _ A18.out).mono ?_); rintro e w21 ⟨rfl, hb⟩; have n0_ := Aside0.mk (below_step (by repeat (first | (with_reducible first | exact HB.out | apply below_alloc | apply pw_below_drewN | apply below_drew1) | exact HB.out)) hb); clear HB; have HB := n0_; clear n0_; (try clear hb); (try clear hb2); (try clear hk); (try clear hi); have p196 : 0 ≤ (x8_2 : Int) := of_decide_eq_true (by first | (with_reducible assumption) | assumption); have q196 : x8_2 < (l1.length : Int) := of_decide_eq_true (by first | (with_reducible assumption) | assumption); obtain ⟨ad196, e196, hx196_0⟩ := Kd.at_string HR1.out x8_2 p196 q196; obtain rfl : ad190 = ad196 := (by injection e196); replace hx196_0 := (HB.out.cell (World.block_lt_of_cell? w _ hx196_0)).trans hx196_0; replace p196 := eq_true p196; replace q196 := eq_true q196; have p197 : 0 ≤ (x7_1 : Int) := of_decide_eq_true (by first | (with_reducible assumption) | assumption); have q197 : x7_1 < (l1.length : Int) := of_decide_eq_true (by first | (with_reducible assumption) | assumption); obtain ⟨ad197, e197, hx197_0⟩ := Kd.at_string HR1.out x7_1 p197 q197; obtain rfl : ad190 = ad197 := (by injection e197); replace hx197_0 := (HB.out.cell (World.block_lt_of_cell? w _ hx197_0)).trans hx197_0; replace p197 := eq_true p197; replace q197 := eq_true q197))
                              repeat (go_quiet (first | (go_at_call 30; (with_reducible refine (cartoucheref02_Keyed.calls a0 (rdOf ByteArray.empty l1 x7_1) t191 t192 _ A15.out).mono ?_); rintro e w20 ⟨rfl, hb⟩; have n0_ := Aside0.mk (below_step (by repeat (first | (with_reducible first | exact HB.out | apply below_alloc | apply pw_below_drewN | apply below_drew1) | exact HB.out)) hb); clear HB; have HB := n0_; clear n0_; (try clear hb); (try clear hb2); (try clear hk); (try clear hi); have p193 : 0 ≤ (x8_2 : Int) := of_decide_eq_true (by first | (with_reducible assumption) | assumption); have q193 : x8_2 < (l1.length : Int) := of_decide_eq_true (by first | (with_reducible assumption) | assumption); obtain ⟨ad193, e193, hx193_0⟩ := Kd.at_string HR1.out x8_2 p193 q193; obtain rfl : ad190 = ad193 := (by injection e193); replace hx193_0 := (HB.out.cell (World.block_lt_of_cell? w _ hx193_0)).trans hx193_0; replace p193 := eq_true p193; replace q193 := eq_true q193) | (go_at_call 30; (with_reducible refine (cartoucheref02_Keyed.calls a0 (rdOf ByteArray.empty l1 x8_2) t194 t195 _ A18.out).mono ?_); rintro e w21 ⟨rfl, hb⟩; have n0_ := Aside0.mk (below_step (by repeat (first | (with_reducible first | exact HB.out | apply below_alloc | apply pw_below_drewN | apply below_drew1) | exact HB.out)) hb); clear HB; have HB := n0_; clear n0_; (try clear hb); (try clear hb2); (try clear hk); (try clear hi); have p196 : 0 ≤ (x8_2 : Int) := of_decide_eq_true (by first | (with_reducible assumption) | assumption); have q196 : x8_2 < (l1.length : Int) := of_decide_eq_true (by first | (with_reducible assumption) | assumption); obtain ⟨ad196, e196, hx196_0⟩ := Kd.at_string HR1.out x8_2 p196 q196; obtain rfl : ad190 = ad196 := (by injection e196); replace hx196_0 := (HB.out.cell (World.block_lt_of_cell? w _ hx196_0)).trans hx196_0; replace p196 := eq_true p196; replace q196 := eq_true q196; have p197 : 0 ≤ (x7_1 : Int) := of_decide_eq_true (by first | (with_reducible assumption) | assumption); have q197 : x7_1 < (l1.length : Int) := of_decide_eq_true (by first | (with_reducible assumption) | assumption); obtain ⟨ad197, e197, hx197_0⟩ := Kd.at_string HR1.out x7_1 p197 q197; obtain rfl : ad190 = ad197 := (by injection e197); replace hx197_0 := (HB.out.cell (World.block_lt_of_cell? w _ hx197_0)).trans hx197_0; replace p197 := eq_true p197; replace q197 := eq_true q197)); try go_wp2_with (first | (go_at_call 30; (with_reducible refine (cartoucheref02_Keyed.calls a0 (rdOf ByteArray.empty l1 x7_1) t191 t192 _ A15.out).mono ?_); rintro e w20 ⟨rfl, hb⟩; have n0_ := Aside0.mk (below_step (by repeat (first | (with_reducible first | exact HB.out | apply below_alloc | apply pw_below_drewN | apply below_drew1) | exact HB.out)) hb); clear HB; have HB := n0_; clear n0_; (try clear hb); (try clear hb2); (try clear hk); (try clear hi); have p193 : 0 ≤ (x8_2 : Int) := of_decide_eq_true (by first | (with_reducible assumption) | assumption); have q193 : x8_2 < (l1.length : Int) := of_decide_eq_true (by first | (with_reducible assumption) | assumption); obtain ⟨ad193, e193, hx193_0⟩ := Kd.at_string HR1.out x8_2 p193 q193; obtain rfl : ad190 = ad193 := (by injection e193); replace hx193_0 := (HB.out.cell (World.block_lt_of_cell? w _ hx193_0)).trans hx193_0; replace p193 := eq_true p193; replace q193 := eq_true q193) | (go_at_call 30; (with_reducible refine (cartoucheref02_Keyed.calls a0 (rdOf ByteArray.empty l1 x8_2) t194 t195 _ A18.out).mono ?_); rintro e w21 ⟨rfl, hb⟩; have n0_ := Aside0.mk (below_step (by repeat (first | (with_reducible first | exact HB.out | apply below_alloc | apply pw_below_drewN | apply below_drew1) | exact HB.out)) hb); clear HB; have HB := n0_; clear n0_; (try clear hb); (try clear hb2); (try clear hk); (try clear hi); have p196 : 0 ≤ (x8_2 : Int) := of_decide_eq_true (by first | (with_reducible assumption) | assumption); have q196 : x8_2 < (l1.length : Int) := of_decide_eq_true (by first | (with_reducible assumption) | assumption); obtain ⟨ad196, e196, hx196_0⟩ := Kd.at_string HR1.out x8_2 p196 q196; obtain rfl : ad190 = ad196 := (by injection e196); replace hx196_0 := (HB.out.cell (World.block_lt_of_cell? w _ hx196_0)).trans hx196_0; replace p196 := eq_true p196; replace q196 := eq_true q196; have p197 : 0 ≤ (x7_1 : Int) := of_decide_eq_true (by first | (with_reducible assumption) | assumption); have q197 : x7_1 < (l1.length : Int) := of_decide_eq_true (by first | (with_reducible assumption) | assumption); obtain ⟨ad197, e197, hx197_0⟩ := Kd.at_string HR1.out x7_1 p197 q197; obtain rfl : ad190 = ad197 := (by injection e197); replace hx197_0 := (HB.out.cell (World.block_lt_of_cell? w _ hx197_0)).trans hx197_0; replace p197 := eq_true p197; replace q197 := eq_true q197)))
                              go_ret3
                              exact ⟨by first | rfl | (simp [errW_none, errW_some] <;> rfl) | (simp [*, errW_none, errW_some] <;> rfl) | (simp [bne]; done) | (simp [*, bne]; done), by repeat (first | (with_reducible first | exact HB.out | apply below_alloc | apply pw_below_drewN | apply below_drew1) | exact HB.out)⟩
                            · rw [if_neg c19] at H
                              have c19b0 : (t191.toList == t194.toList) = false := beq_eq_false_iff_ne.mpr c19
                              have c19b1 : (t191.toList != t194.toList) = true := bne_iff_ne.mpr c19
                              have H' := Aside0.mk H
                              clear H
                              have p190 : 0 ≤ (x7_1 : Int) := of_decide_eq_true (by first | (with_reducible assumption) | assumption)
                              have q190 : x7_1 < (l1.length : Int) := of_decide_eq_true (by first | (with_reducible assumption) | assumption)
                              obtain ⟨ad190, e190, hx190_0⟩ := Kd.at_string HR1.out x7_1 p190 q190
                              cases e190
                              replace hx190_0 := (HB.out.cell (World.block_lt_of_cell? w _ hx190_0)).trans hx190_0
                              replace p190 := eq_true p190
                              replace q190 := eq_true q190
                              go_wp2_with (first | (go_at_call 30; (with_reducible refine (cartoucheref02_Keyed.calls a0 (rdOf ByteArray.empty l1 x7_1) t191 t192 _ A15.out).mono ?_); rintro e w22 ⟨rfl, hb⟩; have n0_ := Aside0.mk (below_step (by repeat (first | (with_reducible first | exact HB.out | apply below_alloc | apply pw_below_drewN | apply below_drew1) | exact HB.out)) hb); clear HB; have HB := n0_; clear n0_; (try clear hb); (try clear hb2); (try clear hk); (try clear hi); have p193 : 0 ≤ (x8_2 : Int) := of_decide_eq_true (by first | (with_reducible assumption) | assumption); have q193 : x8_2 < (l1.length : Int) := of_decide_eq_true (by first | (with_reducible assumption) | assumption); obtain ⟨ad193, e193, hx193_0⟩ := Kd.at_string HR1.out x8_2 p193 q193; obtain rfl : ad190 = ad193 := (by injection e193); replace hx193_0 := (HB.out.cell (World.block_lt_of_cell? w _ hx193_0)).trans hx193_0; replace p193 := eq_true p193; replace q193 := eq_true q193) | (go_at_call 30; (with_reducible refine (cartoucheref02_Keyed.calls a0 (rdOf ByteArray.empty l1 x8_2) t194 t195 _ A18.out).mono ?_); rintro e w23 ⟨rfl, hb⟩; have n0_ := Aside0.mk (below_step (by repeat (first | (with_reducible first | exact HB.out | apply below_alloc | apply pw_below_drewN | apply below_drew1) | exact HB.out)) hb); clear HB; have HB := n0_; clear n0_; (try clear hb); (try clear hb2); (try clear hk); (try clear hi)))
                              repeat (go_quiet (first | (go_at_call 30; (with_reducible refine (cartoucheref02_Keyed.calls a0 (rdOf ByteArray.empty l1 x7_1) t191 t192 _ A15.out).mono ?_); rintro e w22 ⟨rfl, hb⟩; have n0_ := Aside0.mk (below_step (by repeat (first | (with_reducible first | exact HB.out | apply below_alloc | apply pw_below_drewN | apply below_drew1) | exact HB.out)) hb); clear HB; have HB := n0_; clear n0_; (try clear hb); (try clear hb2); (try clear hk); (try clear hi); have p193 : 0 ≤ (x8_2 : Int) := of_decide_eq_true (by first | (with_reducible assumption) | assumption); have q193 : x8_2 < (l1.length : Int) := of_decide_eq_true (by first | (with_reducible assumption) | assumption); obtain ⟨ad193, e193, hx193_0⟩ := Kd.at_string HR1.out x8_2 p193 q193; obtain rfl : ad190 = ad193 := (by injection e193); replace hx193_0 := (HB.out.cell (World.block_lt_of_cell? w _ hx193_0)).trans hx193_0; replace p193 := eq_true p193; replace q193 := eq_true q193) | (go_at_call 30; (with_reducible refine (cartoucheref02_Keyed.calls a0 (rdOf ByteArray.empty l1 x8_2) t194 t195 _ A18.out).mono ?_); rintro e w23 ⟨rfl, hb⟩; have n0_ := Aside0.mk (below_step (by repeat (first | (with_reducible first | exact HB.out | apply below_alloc | apply pw_below_drewN | apply below_drew1) | exact HB.out)) hb); clear HB; have HB := n0_; clear n0_; (try clear hb); (try clear hb2); (try clear hk); (try clear hi))); try go_wp2_with (first | (go_at_call 30; (with_reducible refine (cartoucheref02_Keyed.calls a0 (rdOf ByteArray.empty l1 x7_1) t191 t192 _ A15.out).mono ?_); rintro e w22 ⟨rfl, hb⟩; have n0_ := Aside0.mk (below_step (by repeat (first | (with_reducible first | exact HB.out | apply below_alloc | apply pw_below_drewN | apply below_drew1) | exact HB.out)) hb); clear HB; have HB := n0_; clear n0_; (try clear hb); (try clear hb2); (try clear hk); (try clear hi); have p193 : 0 ≤ (x8_2 : Int) := of_decide_eq_true (by first | (with_reducible assumption) | assumption); have q193 : x8_2 < (l1.length : Int) := of_decide_eq_true (by first | (with_reducible assumption) | assumption); obtain ⟨ad193, e193, hx193_0⟩ := Kd.at_string HR1.out x8_2 p193 q193; obtain rfl : ad190 = ad193 := (by injection e193); replace hx193_0 := (HB.out.cell (World.block_lt_of_cell? w _ hx193_0)).trans hx193_0; replace p193 := eq_true p193; replace q193 := eq_true q193) | (go_at_call 30; (with_reducible refine (cartoucheref02_Keyed.calls a0 (rdOf ByteArray.empty l1 x8_2) t194 t195 _ A18.out).mono ?_); rintro e w23 ⟨rfl, hb⟩; have n0_ := Aside0.mk (below_step (by repeat (first | (with_reducible first | exact HB.out | apply below_alloc | apply pw_below_drewN | apply below_drew1) | exact HB.out)) hb); clear HB; have HB := n0_; clear n0_; (try clear hb); (try clear hb2); (try clear hk); (try clear hi))))
                              go_roundg kj4
                              case measure => have := HK1.out; have := HK2.out; have := HJ4.out; omega
                              case rel => exact ⟨(wrap64 (x8_2 + 1)), (by first | rfl | (simp; done) | (simp [*]; done)), H', ⟨by have := HK1.out; have := HK2.out; have := HJ4.out; omega⟩, ⟨by repeat (first | (with_reducible first | exact HB.out | apply below_alloc | apply pw_below_drewN | apply below_drew1) | exact HB.out)⟩⟩
                          · rw [if_neg c17] at H
                            exact absurd H (by simp)
                        · rw [if_neg c16] at H
                          exact absurd H (by simp)
                      · rw [if_neg c14] at H
                        exact absurd H (by simp)
                    · rw [if_neg c13] at H
                      exact absurd H (by simp)
            · rw [if_neg c4] at H
              have c4b0 : decide (x8_2 < x7_1) = false := decide_eq_false c4
              clear c4
              have H' := Aside0.mk H
              clear H
              go_wp2
              repeat (go_quiet (fail); try go_wp2)
              go_roundg k2
              case measure => have := HK1.out; have := HK2.out; omega
              case rel => exact ⟨(wrap64 (x7_1 + 1)), (by first | rfl | (simp; done) | (simp [*]; done)), H', ⟨by have := HK1.out; have := HK2.out; omega⟩, ⟨by repeat (first | (with_reducible first | exact HB.out | apply below_alloc | apply pw_below_drewN | apply below_drew1) | exact HB.out)⟩⟩
      · rw [if_neg c3] at H
        have c3b0 : decide (x7_1 < (l1.length : Int)) = false := decide_eq_false c3
        clear c3
        simp only [Option.some.injEq, Prod.mk.injEq] at H
        obtain ⟨rfl, rfl, rfl⟩ := H
        go_wp2
        repeat (go_quiet (fail); try go_wp2)
        go_ret3
        exact ⟨by first | rfl | (simp [errW_none, errW_some] <;> rfl) | (simp [*, errW_none, errW_some] <;> rfl) | (simp [bne]; done) | (simp [*, bne]; done), by repeat (first | (with_reducible first | exact HB.out | apply below_alloc | apply pw_below_drewN | apply below_drew1) | exact HB.out)⟩

end Go.Proofs.YtbckobokiioeaaaDoor.Q
