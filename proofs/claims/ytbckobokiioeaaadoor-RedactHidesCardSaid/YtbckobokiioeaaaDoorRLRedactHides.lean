-- Written by pp.py and splitq.py, programs of the session, with the kit's print. Not trusted: Lean checks it.
import Derived.Test.YtbckobokiioeaaaDoorRS
namespace Go.Proofs.YtbckobokiioeaaaDoor.R
open Go.RowKit Go.Proofs.YtbckobokiioeaaaDoor.Q Go.Proofs.YtbckobokiioeaaaDoorW.PrintWords Go.Proofs.YtbckobokiioeaaaDoorW.PrintLast
set_option linter.unusedVariables false
set_option linter.unusedSimpArgs false

attribute [local go_sem high] eqA26

/-! ### cartouchelaw07_RedactHides: function 6 -/
def cartouchelaw07_RedactHides.j0 : Nat → Bool → Bool → Int → Int → ByteArray → ByteArray → Int → Int → ByteArray → ByteArray → Option (Bool)
  | 0, _, _, _, _, _, _, _, _, _, _ => none
  | k + 1, x5, x46, x179000, x179001, x179002, x179003, x186000, x186001, x186002, x186003 => if x46 = true then (some false) else (if x179000 = 2 then (if x5 = true then (if (x186002.size : Int) = 32 then (if (((x186003.size : Int) == 32) == (x179003.toList != ([] : List UInt8))) = true then (some (((x186003.size : Int) == 0) == (x179003.toList == ([] : List UInt8)))) else (some false)) else (some false)) else (some false)) else (if x179000 = 3 then (if x5 = true then (if (x186002.size : Int) = 32 then (if (((x186003.size : Int) == 32) == (x179003.toList != ([] : List UInt8))) = true then (some (((x186003.size : Int) == 0) == (x179003.toList == ([] : List UInt8)))) else (some false)) else (some false)) else (some false)) else (if x5 = true then (some (x186000 == x179000 && (x186001 == x179001 && (x186002.toList == x179002.toList && (x186003.toList == x179003.toList))))) else (some false))))
def cartouchelaw07_RedactHides.f (k : Nat) (a0 : ByteArray) (a1_0 : Int) (a1_1 : Int) (a1_2 : ByteArray) (a1_3 : ByteArray) : Option (Bool) := (cartouchelaw07_shown.f).bind fun t179 => ((redact_One.f k a0 a1_0 a1_1 a1_2 a1_3).bind fun bt180 => ((cartoucheref06_May.f k a1_0 a1_1 a1_2 a1_3).bind fun t186 => (if bt180.2.2.2.2 = 0 then (if bt180.1 = a1_0 then (cartouchelaw07_RedactHides.j0 k t179 (bt180.2.1 != a1_1) a1_0 a1_1 a1_2 a1_3 bt180.1 bt180.2.1 bt180.2.2.1 bt180.2.2.2.1) else (cartouchelaw07_RedactHides.j0 k t179 true a1_0 a1_1 a1_2 a1_3 bt180.1 bt180.2.1 bt180.2.2.1 bt180.2.2.2.1)) else (if t179 = true then (if t186 = true then (if (a0.size : Int) < 1 then (some true) else (some (decide ((a0.size : Int) > 32)))) else (some true)) else (some false)))))
theorem cartouchelaw07_RedactHides.mono_l : ∀ k, (∀ y0 y1 y2 y3 y4 y5 y6 y7 y8 y9, LeO (cartouchelaw07_RedactHides.j0 k y0 y1 y2 y3 y4 y5 y6 y7 y8 y9) (cartouchelaw07_RedactHides.j0 (k + 1) y0 y1 y2 y3 y4 y5 y6 y7 y8 y9))
  | 0 => fun _ _ _ _ _ _ _ _ _ _ r h => by simp [cartouchelaw07_RedactHides.j0] at h
  | k + 1 => by
    have ih0 := cartouchelaw07_RedactHides.mono_l k
    · intro y0 y1 y2 y3 y4 y5 y6 y7 y8 y9
      unfold cartouchelaw07_RedactHides.j0
      repeat' first
      | (with_reducible exact ih0 _ _ _ _ _ _ _ _ _ _)
      | (with_reducible exact cartoucheref06_May.mono _ _ _ _ _)
      | (with_reducible exact redact_One.mono _ _ _ _ _ _)
      | (with_reducible exact LeO.refl _)
      | (with_reducible exact LeO.none _)
      | (with_reducible refine LeO.ite ?_ ?_)
      | (with_reducible refine LeO.bind ?_ (fun _ => ?_))
      | exact ih0 _ _ _ _ _ _ _ _ _ _
      | exact cartoucheref06_May.mono _ _ _ _ _
      | exact redact_One.mono _ _ _ _ _ _
      | exact LeO.none _
      | refine LeO.ite ?_ ?_
      | refine LeO.bind ?_ (fun _ => ?_)
theorem cartouchelaw07_RedactHides.mono : ∀ a0 a1 a2 a3 a4 k, LeO (cartouchelaw07_RedactHides.f k a0 a1 a2 a3 a4) (cartouchelaw07_RedactHides.f (k + 1) a0 a1 a2 a3 a4) := by
  intro a0 a1 a2 a3 a4 k
  have ih0 := cartouchelaw07_RedactHides.mono_l k
  unfold cartouchelaw07_RedactHides.f
  repeat' first
      | (with_reducible exact ih0 _ _ _ _ _ _ _ _ _ _)
      | (with_reducible exact cartoucheref06_May.mono _ _ _ _ _)
      | (with_reducible exact redact_One.mono _ _ _ _ _ _)
      | (with_reducible exact LeO.refl _)
      | (with_reducible exact LeO.none _)
      | (with_reducible refine LeO.ite ?_ ?_)
      | (with_reducible refine LeO.bind ?_ (fun _ => ?_))
      | exact ih0 _ _ _ _ _ _ _ _ _ _
      | exact cartoucheref06_May.mono _ _ _ _ _
      | exact redact_One.mono _ _ _ _ _ _
      | exact LeO.none _
      | refine LeO.ite ?_ ?_
      | refine LeO.bind ?_ (fun _ => ?_)
set_option maxHeartbeats 8000000 in
set_option maxRecDepth 100000 in
theorem cartouchelaw07_RedactHides.calls (k : Nat) (a0 : ByteArray) (a1_0 : Int) (a1_1 : Int) (a1_2 : ByteArray) (a1_3 : ByteArray) (r : Bool) (w : World) (hT : Tabs w) (h : cartouchelaw07_RedactHides.f k a0 a1_0 a1_1 a1_2 a1_3 = some r) :
    Calls Tryd.prog 6 #[.string a0, .agg #[.int .i64 a1_0, .int .i64 a1_1, .string a1_2, .string a1_3]] w fun e w' => e = .returned (.bool r) ∧ Below w.heap.size w w' := by
  have hu26 := Tryd.underlying26
  have HB := Aside0.mk (Below.refl w.heap.size w)
  have H : ((cartouchelaw07_shown.f).bind fun t179 => ((redact_One.f k a0 a1_0 a1_1 a1_2 a1_3).bind fun bt180 => ((cartoucheref06_May.f k a1_0 a1_1 a1_2 a1_3).bind fun t186 => (if bt180.2.2.2.2 = 0 then (if bt180.1 = a1_0 then (cartouchelaw07_RedactHides.j0 k t179 (bt180.2.1 != a1_1) a1_0 a1_1 a1_2 a1_3 bt180.1 bt180.2.1 bt180.2.2.1 bt180.2.2.2.1) else (cartouchelaw07_RedactHides.j0 k t179 true a1_0 a1_1 a1_2 a1_3 bt180.1 bt180.2.1 bt180.2.2.1 bt180.2.2.2.1)) else (if t179 = true then (if t186 = true then (if (a0.size : Int) < 1 then (some true) else (some (decide ((a0.size : Int) > 32)))) else (some true)) else (some false)))))) = some r := h
  clear h
  replace H := Option.bind_eq_some_iff.mp H
  obtain ⟨t179, A30, H⟩ := H
  replace H : ((redact_One.f k a0 a1_0 a1_1 a1_2 a1_3).bind fun bt180 => ((cartoucheref06_May.f k a1_0 a1_1 a1_2 a1_3).bind fun t186 => (if bt180.2.2.2.2 = 0 then (if bt180.1 = a1_0 then (cartouchelaw07_RedactHides.j0 k t179 (bt180.2.1 != a1_1) a1_0 a1_1 a1_2 a1_3 bt180.1 bt180.2.1 bt180.2.2.1 bt180.2.2.2.1) else (cartouchelaw07_RedactHides.j0 k t179 true a1_0 a1_1 a1_2 a1_3 bt180.1 bt180.2.1 bt180.2.2.1 bt180.2.2.2.1)) else (if t179 = true then (if t186 = true then (if (a0.size : Int) < 1 then (some true) else (some (decide ((a0.size : Int) > 32)))) else (some true)) else (some false))))) = some r := H
  have A3 := Aside0.mk A30
  clear A30
  replace H := Option.bind_eq_some_iff.mp H
  obtain ⟨⟨t180, t181, t182, t183, t184⟩, A40, H⟩ := H
  replace H : ((cartoucheref06_May.f k a1_0 a1_1 a1_2 a1_3).bind fun t186 => (if t184 = 0 then (if t180 = a1_0 then (cartouchelaw07_RedactHides.j0 k t179 (t181 != a1_1) a1_0 a1_1 a1_2 a1_3 t180 t181 t182 t183) else (cartouchelaw07_RedactHides.j0 k t179 true a1_0 a1_1 a1_2 a1_3 t180 t181 t182 t183)) else (if t179 = true then (if t186 = true then (if (a0.size : Int) < 1 then (some true) else (some (decide ((a0.size : Int) > 32)))) else (some true)) else (some false)))) = some r := H
  have A4 := Aside0.mk A40
  clear A40
  replace H := Option.bind_eq_some_iff.mp H
  obtain ⟨t186, A50, H⟩ := H
  replace H : (if t184 = 0 then (if t180 = a1_0 then (cartouchelaw07_RedactHides.j0 k t179 (t181 != a1_1) a1_0 a1_1 a1_2 a1_3 t180 t181 t182 t183) else (cartouchelaw07_RedactHides.j0 k t179 true a1_0 a1_1 a1_2 a1_3 t180 t181 t182 t183)) else (if t179 = true then (if t186 = true then (if (a0.size : Int) < 1 then (some true) else (some (decide ((a0.size : Int) > 32)))) else (some true)) else (some false))) = some r := H
  have A5 := Aside0.mk A50
  clear A50
  by_cases c6 : t184 = 0
  · rw [if_pos c6] at H
    have c6b0 : (t184 == 0) = true := beq_iff_eq.mpr c6
    have c6b1 : (t184 != 0) = false := bne_eq_false_iff_eq.mpr c6
    clear c6
    have HC7 := Aside0.mk H
    clear H
    go_enter Tryd.func6, Tryd.ntmps6
    go_upto_region 6 with (first | ((with_reducible refine gate_dst (N := 3) rfl ?_); (try (refine gate_guard (by rfl) ?_; dsimp only)); refine box_event ?hg (N := 3) ?hd (cs := #[.int .i64 a1_0, .int .i64 a1_1, .string a1_2, .string a1_3]) (t := 26) ?hr ?_; (case hd => rfl); (case hg => rfl); (case hr => first | (go_simp; done) | (go_simp; rfl)); intro gb178 hg w8 hbox hb; have n0_ := Aside0.mk (below_step (by repeat (first | (with_reducible first | exact HB.out | apply below_alloc | apply pw_below_drewN | apply below_drew1) | exact HB.out)) hb); have n1_ := Aside0.mk (hbox); have n2_ := Aside0.mk ((by rw [hg]; exact (below_size (by repeat (first | (with_reducible first | exact HB.out | apply below_alloc | apply pw_below_drewN | apply below_drew1) | exact HB.out))) : w.heap.size ≤ gb178)); have n3_ := Aside0.mk ((by rw [hg]; exact (below_size (by repeat (first | (with_reducible first | exact HB.out | apply below_alloc | apply pw_below_drewN | apply below_drew1) | exact HB.out))) : w.heap.size ≤ gb178)); clear HB; have HB := n0_; have BK178 := n1_; have GW178 := n2_; have GE178 := n3_; clear n0_ n1_ n2_ n3_; clear hb hbox hg) | ((with_reducible refine look_callee (f := 9) rfl ?_); refine goesL_ (some 9) rfl rfl Tryd.func9 (by kernel_rfl) rfl #[] rfl (by (try simp only [List.map_toArray, List.map_cons, List.map_nil]); first | done | rfl | (simp only [List.length_drop, List.length_take]; rfl)) ?_; (with_reducible refine (cartouchelaw07_shown.calls  t179 _ A3.out).mono ?_); rintro e w9 ⟨rfl, hb⟩; refine ⟨_, rfl, ?_⟩; have n0_ := Aside0.mk (blk_below (g := gb178) (o := .cells #[.int .i64 a1_0, .int .i64 a1_1, .string a1_2, .string a1_3] 26 (0, 0)) (by (with_reducible repeat (first | refine blk_drewN ?_ _ | refine blk_drew ?_ | refine blk_alloc ?_ _)); exact BK178.out) hb); have n1_ := Aside0.mk (below_step (by repeat (first | (with_reducible first | exact HB.out | apply below_alloc | apply pw_below_drewN | apply below_drew1 | refine below_set ?_ GE178.out) | exact HB.out)) hb); clear BK178; clear HB; have BK178 := n0_; have HB := n1_; clear n0_ n1_; (try clear hb); (try clear hb2); (try clear hk); (try clear hi); have hcz10_0 : w9.cell? ⟨gb178, 0, none⟩ = some (.int .i64 a1_0) := (blk_cell BK178.out 0).trans rfl; have hcz10_1 : w9.cell? ⟨gb178, 1, none⟩ = some (.int .i64 a1_1) := (blk_cell BK178.out 1).trans rfl; have hcz10_2 : w9.cell? ⟨gb178, 2, none⟩ = some (.string a1_2) := (blk_cell BK178.out 2).trans rfl; have hcz10_3 : w9.cell? ⟨gb178, 3, none⟩ = some (.string a1_3) := (blk_cell BK178.out 3).trans rfl; have hfz10_0 := blk_frozen BK178.out 0; have hfz10_1 := blk_frozen BK178.out 1; have hfz10_2 := blk_frozen BK178.out 2; have hfz10_3 := blk_frozen BK178.out 3) | ((with_reducible refine look_callee (f := 17) rfl ?_); refine goesL_ (some 13) rfl rfl Tryd.func17 (by kernel_rfl) rfl #[.string a0, .agg #[.int .i64 a1_0, .int .i64 a1_1, .string a1_2, .string a1_3]] rfl (by (try simp only [List.map_toArray, List.map_cons, List.map_nil]); first | done | rfl | (simp only [List.length_drop, List.length_take]; rfl)) ?_; (with_reducible refine (redact_One.calls k a0 a1_0 a1_1 a1_2 a1_3 t180 t181 t182 t183 t184 _ ?side1 A4.out).mono ?_); (case side1 => exact hT.below (by repeat (first | (with_reducible first | exact HB.out | apply below_alloc | apply pw_below_drewN | apply below_drew1 | refine below_set ?_ GE178.out) | exact HB.out)) hT.size); rintro e w11 ⟨rfl, hb⟩; refine ⟨_, rfl, ?_⟩; have n0_ := Aside0.mk (blk_below (g := gb178) (o := .cells #[.int .i64 a1_0, .int .i64 a1_1, .string a1_2, .string a1_3] 26 (0, 0)) (by (with_reducible repeat (first | refine blk_drewN ?_ _ | refine blk_drew ?_ | refine blk_alloc ?_ _)); exact BK178.out) hb); have n1_ := Aside0.mk (below_step (by repeat (first | (with_reducible first | exact HB.out | apply below_alloc | apply pw_below_drewN | apply below_drew1 | refine below_set ?_ GE178.out) | exact HB.out)) hb); clear BK178; clear HB; have BK178 := n0_; have HB := n1_; clear n0_ n1_; (try clear hb); (try clear hb2); (try clear hk); (try clear hi)) | ((with_reducible refine gate_dst (N := 6) rfl ?_); (try (refine gate_guard (by rfl) ?_; dsimp only)); refine box_event ?hg (N := 6) ?hd (cs := #[.int .i64 0, .int .i64 0, .string (⟨#[]⟩ : ByteArray), .string (⟨#[]⟩ : ByteArray)]) (t := 26) ?hr ?_; (case hd => rfl); (case hg => rfl); (case hr => first | (go_simp; done) | (go_simp; rfl)); intro gb185 hg w12 hbox hb; have n0_ := Aside0.mk (blk_below (g := gb178) (o := .cells #[.int .i64 a1_0, .int .i64 a1_1, .string a1_2, .string a1_3] 26 (0, 0)) (by (with_reducible repeat (first | refine blk_drewN ?_ _ | refine blk_drew ?_ | refine blk_alloc ?_ _)); exact BK178.out) hb); have n1_ := Aside0.mk (below_step (by repeat (first | (with_reducible first | exact HB.out | apply below_alloc | apply pw_below_drewN | apply below_drew1 | refine below_set ?_ GE178.out) | exact HB.out)) hb); have n2_ := Aside0.mk (hbox); have n3_ := Aside0.mk ((by rw [hg]; exact (below_size (by repeat (first | (with_reducible first | exact HB.out | apply below_alloc | apply pw_below_drewN | apply below_drew1 | refine below_set ?_ GE178.out) | exact HB.out))) : w.heap.size ≤ gb185)); have n4_ := Aside0.mk ((by rw [hg]; exact (below_size (by repeat (first | (with_reducible first | exact HB.out | apply below_alloc | apply pw_below_drewN | apply below_drew1 | refine below_set ?_ GE178.out) | exact HB.out))) : w.heap.size ≤ gb185)); have n5_ := Aside0.mk ((by rw [hg]; exact Nat.ne_of_lt (blk_lt (g := gb178) (o := .cells #[.int .i64 a1_0, .int .i64 a1_1, .string a1_2, .string a1_3] 26 (0, 0)) (by (with_reducible repeat (first | refine blk_drewN ?_ _ | refine blk_drew ?_ | refine blk_alloc ?_ _)); exact BK178.out)) : gb178 ≠ gb185)); have n6_ := Aside0.mk ((by rw [hg]; exact Nat.ne_of_gt (blk_lt (g := gb178) (o := .cells #[.int .i64 a1_0, .int .i64 a1_1, .string a1_2, .string a1_3] 26 (0, 0)) (by (with_reducible repeat (first | refine blk_drewN ?_ _ | refine blk_drew ?_ | refine blk_alloc ?_ _)); exact BK178.out)) : gb185 ≠ gb178)); clear BK178; clear HB; have BK178 := n0_; have HB := n1_; have BK185 := n2_; have GW185 := n3_; have GE185 := n4_; have NB178_185 := n5_; have NB185_178 := n6_; clear n0_ n1_ n2_ n3_ n4_ n5_ n6_; clear hb hbox hg; have hnb13 := NB185_178.out; have hnc13 := NB178_185.out; have hcz14_0 : w12.cell? ⟨gb185, 0, none⟩ = some (.int .i64 0) := (blk_cell BK185.out 0).trans rfl; have hcz14_1 : w12.cell? ⟨gb185, 1, none⟩ = some (.int .i64 0) := (blk_cell BK185.out 1).trans rfl; have hcz14_2 : w12.cell? ⟨gb185, 2, none⟩ = some (.string (⟨#[]⟩ : ByteArray)) := (blk_cell BK185.out 2).trans rfl; have hcz14_3 : w12.cell? ⟨gb185, 3, none⟩ = some (.string (⟨#[]⟩ : ByteArray)) := (blk_cell BK185.out 3).trans rfl; have hfz14_0 := blk_frozen BK185.out 0; have hfz14_1 := blk_frozen BK185.out 1; have hfz14_2 := blk_frozen BK185.out 2; have hfz14_3 := blk_frozen BK185.out 3; have hcz15_0 : w12.cell? ⟨gb178, 0, none⟩ = some (.int .i64 a1_0) := (blk_cell BK178.out 0).trans rfl; have hcz15_1 : w12.cell? ⟨gb178, 1, none⟩ = some (.int .i64 a1_1) := (blk_cell BK178.out 1).trans rfl; have hcz15_2 : w12.cell? ⟨gb178, 2, none⟩ = some (.string a1_2) := (blk_cell BK178.out 2).trans rfl; have hcz15_3 : w12.cell? ⟨gb178, 3, none⟩ = some (.string a1_3) := (blk_cell BK178.out 3).trans rfl; have hfz15_0 := blk_frozen BK178.out 0; have hfz15_1 := blk_frozen BK178.out 1; have hfz15_2 := blk_frozen BK178.out 2; have hfz15_3 := blk_frozen BK178.out 3) | ((with_reducible refine look_callee (f := 19) rfl ?_); refine goesL_ (some 17) rfl rfl Tryd.func19 (by kernel_rfl) rfl #[.agg #[.int .i64 a1_0, .int .i64 a1_1, .string a1_2, .string a1_3]] rfl (by (try simp only [List.map_toArray, List.map_cons, List.map_nil]); first | done | rfl | (simp only [List.length_drop, List.length_take]; rfl)) ?_; (with_reducible refine (cartoucheref06_May.calls k a1_0 a1_1 a1_2 a1_3 t186 _ A5.out).mono ?_); rintro e w16 ⟨rfl, hb⟩; refine ⟨_, rfl, ?_⟩; have n0_ := Aside0.mk (blk_below (g := gb178) (o := .cells #[.int .i64 a1_0, .int .i64 a1_1, .string a1_2, .string a1_3] 26 (0, 0)) (by (with_reducible repeat (first | refine blk_drewN ?_ _ | refine blk_drew ?_ | refine blk_alloc ?_ _)); refine blk_far ?_ NB178_185.out _; (with_reducible repeat (first | refine blk_drewN ?_ _ | refine blk_drew ?_ | refine blk_alloc ?_ _)); refine blk_far ?_ NB178_185.out _; (with_reducible repeat (first | refine blk_drewN ?_ _ | refine blk_drew ?_ | refine blk_alloc ?_ _)); refine blk_far ?_ NB178_185.out _; (with_reducible repeat (first | refine blk_drewN ?_ _ | refine blk_drew ?_ | refine blk_alloc ?_ _)); refine blk_far ?_ NB178_185.out _; (with_reducible repeat (first | refine blk_drewN ?_ _ | refine blk_drew ?_ | refine blk_alloc ?_ _)); exact BK178.out) hb); have n1_ := Aside0.mk (blk_below (g := gb185) (o := .cells #[.int .i64 t180, .int .i64 t181, .string t182, .string t183] 26 (0, 0)) (by (with_reducible repeat (first | refine blk_drewN ?_ _ | refine blk_drew ?_ | refine blk_alloc ?_ _)); refine blk_put (cs := #[.int .i64 t180, .int .i64 t181, .string t182, .string (⟨#[]⟩ : ByteArray)]) ?_ 3 _ rfl; (with_reducible repeat (first | refine blk_drewN ?_ _ | refine blk_drew ?_ | refine blk_alloc ?_ _)); refine blk_put (cs := #[.int .i64 t180, .int .i64 t181, .string (⟨#[]⟩ : ByteArray), .string (⟨#[]⟩ : ByteArray)]) ?_ 2 _ rfl; (with_reducible repeat (first | refine blk_drewN ?_ _ | refine blk_drew ?_ | refine blk_alloc ?_ _)); refine blk_put (cs := #[.int .i64 t180, .int .i64 0, .string (⟨#[]⟩ : ByteArray), .string (⟨#[]⟩ : ByteArray)]) ?_ 1 _ rfl; (with_reducible repeat (first | refine blk_drewN ?_ _ | refine blk_drew ?_ | refine blk_alloc ?_ _)); refine blk_put (cs := #[.int .i64 0, .int .i64 0, .string (⟨#[]⟩ : ByteArray), .string (⟨#[]⟩ : ByteArray)]) ?_ 0 _ rfl; (with_reducible repeat (first | refine blk_drewN ?_ _ | refine blk_drew ?_ | refine blk_alloc ?_ _)); exact BK185.out) hb); have n2_ := Aside0.mk (below_step (by repeat (first | (with_reducible first | exact HB.out | apply below_alloc | apply pw_below_drewN | apply below_drew1 | refine below_set ?_ GE178.out | refine below_set ?_ GE185.out) | exact HB.out)) hb); clear BK178; clear BK185; clear HB; have BK178 := n0_; have BK185 := n1_; have HB := n2_; clear n0_ n1_ n2_; (try clear hb); (try clear hb2); (try clear hk); (try clear hi)))
    (try simp only [Act.put, List.setIfInBounds_toArray, List.set_cons_zero, List.set_cons_succ])
    go_cut [46] (fun v46 wc => ∃ (kq : Nat) (x46_6 : Bool), v46 = .bool x46_6 ∧ Aside0 (cartouchelaw07_RedactHides.j0 kq t179 x46_6 a1_0 a1_1 a1_2 a1_3 t180 t181 t182 t183 = some r) ∧ Aside0 (kq ≤ k) ∧ Aside0 (wc.heap[gb178]? = some (.cells #[.int .i64 a1_0, .int .i64 a1_1, .string a1_2, .string a1_3] 26 (0, 0))) ∧ Aside0 (wc.heap[gb185]? = some (.cells #[.int .i64 t180, .int .i64 t181, .string t182, .string t183] 26 (0, 0))) ∧ Aside0 (Below w.heap.size w wc))
    case first =>
      have H := HC7.out
      clear HC7
      by_cases c17 : t180 = a1_0
      · rw [if_pos c17] at H
        have c17b0 : (t180 == a1_0) = true := beq_iff_eq.mpr c17
        have c17b1 : (t180 != a1_0) = false := bne_eq_false_iff_eq.mpr c17
        clear c17
        (first | rw [c17b0] | (simp only [i64_w, i32_w]; rw [c17b0]) | skip)
        have H' := Aside0.mk H
        clear H
        have hnb18 := NB185_178.out
        have hnc18 := NB178_185.out
        have hcz19_0 : w16.cell? ⟨gb185, 0, none⟩ = some (.int .i64 t180) := (blk_cell BK185.out 0).trans rfl
        have hcz19_1 : w16.cell? ⟨gb185, 1, none⟩ = some (.int .i64 t181) := (blk_cell BK185.out 1).trans rfl
        have hcz19_2 : w16.cell? ⟨gb185, 2, none⟩ = some (.string t182) := (blk_cell BK185.out 2).trans rfl
        have hcz19_3 : w16.cell? ⟨gb185, 3, none⟩ = some (.string t183) := (blk_cell BK185.out 3).trans rfl
        have hfz19_0 := blk_frozen BK185.out 0
        have hfz19_1 := blk_frozen BK185.out 1
        have hfz19_2 := blk_frozen BK185.out 2
        have hfz19_3 := blk_frozen BK185.out 3
        have hcz20_0 : w16.cell? ⟨gb178, 0, none⟩ = some (.int .i64 a1_0) := (blk_cell BK178.out 0).trans rfl
        have hcz20_1 : w16.cell? ⟨gb178, 1, none⟩ = some (.int .i64 a1_1) := (blk_cell BK178.out 1).trans rfl
        have hcz20_2 : w16.cell? ⟨gb178, 2, none⟩ = some (.string a1_2) := (blk_cell BK178.out 2).trans rfl
        have hcz20_3 : w16.cell? ⟨gb178, 3, none⟩ = some (.string a1_3) := (blk_cell BK178.out 3).trans rfl
        have hfz20_0 := blk_frozen BK178.out 0
        have hfz20_1 := blk_frozen BK178.out 1
        have hfz20_2 := blk_frozen BK178.out 2
        have hfz20_3 := blk_frozen BK178.out 3
        go_wp2
        go_meet
        case rel => exact ⟨_, ((t181 != a1_1)), (by first | rfl | (simp; done) | (simp [*]; done)), H', ⟨by first | omega | exact Nat.le_refl _⟩, ⟨by (with_reducible repeat (first | refine blk_drewN ?_ _ | refine blk_drew ?_ | refine blk_alloc ?_ _)); exact BK178.out⟩, ⟨by (with_reducible repeat (first | refine blk_drewN ?_ _ | refine blk_drew ?_ | refine blk_alloc ?_ _)); exact BK185.out⟩, ⟨by repeat (first | (with_reducible first | exact HB.out | apply below_alloc | apply pw_below_drewN | apply below_drew1 | refine below_set ?_ GE178.out | refine below_set ?_ GE185.out) | exact HB.out)⟩⟩
      · rw [if_neg c17] at H
        have c17b0 : (t180 == a1_0) = false := beq_eq_false_iff_ne.mpr c17
        have c17b1 : (t180 != a1_0) = true := bne_iff_ne.mpr c17
        (first | rw [c17b0] | (simp only [i64_w, i32_w]; rw [c17b0]) | skip)
        have H' := Aside0.mk H
        clear H
        have hnb21 := NB185_178.out
        have hnc21 := NB178_185.out
        have hcz22_0 : w16.cell? ⟨gb185, 0, none⟩ = some (.int .i64 t180) := (blk_cell BK185.out 0).trans rfl
        have hcz22_1 : w16.cell? ⟨gb185, 1, none⟩ = some (.int .i64 t181) := (blk_cell BK185.out 1).trans rfl
        have hcz22_2 : w16.cell? ⟨gb185, 2, none⟩ = some (.string t182) := (blk_cell BK185.out 2).trans rfl
        have hcz22_3 : w16.cell? ⟨gb185, 3, none⟩ = some (.string t183) := (blk_cell BK185.out 3).trans rfl
        have hfz22_0 := blk_frozen BK185.out 0
        have hfz22_1 := blk_frozen BK185.out 1
        have hfz22_2 := blk_frozen BK185.out 2
        have hfz22_3 := blk_frozen BK185.out 3
        have hcz23_0 : w16.cell? ⟨gb178, 0, none⟩ = some (.int .i64 a1_0) := (blk_cell BK178.out 0).trans rfl
        have hcz23_1 : w16.cell? ⟨gb178, 1, none⟩ = some (.int .i64 a1_1) := (blk_cell BK178.out 1).trans rfl
        have hcz23_2 : w16.cell? ⟨gb178, 2, none⟩ = some (.string a1_2) := (blk_cell BK178.out 2).trans rfl
        have hcz23_3 : w16.cell? ⟨gb178, 3, none⟩ = some (.string a1_3) := (blk_cell BK178.out 3).trans rfl
        have hfz23_0 := blk_frozen BK178.out 0
        have hfz23_1 := blk_frozen BK178.out 1
        have hfz23_2 := blk_frozen BK178.out 2
        have hfz23_3 := blk_frozen BK178.out 3
        go_wp2
        go_meet
        case rel => exact ⟨_, (true), (by first | rfl | (simp; done) | (simp [*]; done)), H', ⟨by first | omega | exact Nat.le_refl _⟩, ⟨by (with_reducible repeat (first | refine blk_drewN ?_ _ | refine blk_drew ?_ | refine blk_alloc ?_ _)); exact BK178.out⟩, ⟨by (with_reducible repeat (first | refine blk_drewN ?_ _ | refine blk_drew ?_ | refine blk_alloc ?_ _)); exact BK185.out⟩, ⟨by repeat (first | (with_reducible first | exact HB.out | apply below_alloc | apply pw_below_drewN | apply below_drew1 | refine below_set ?_ GE178.out | refine below_set ?_ GE185.out) | exact HB.out)⟩⟩
    case rest =>
      clear HC7
      try clear c1
      try clear c2
      try clear p2
      try clear c6
      try clear c6b0
      try clear c6b1
      try clear c9
      try clear c13
      try clear c17
      try clear c17b0
      try clear c17b1
      try clear c18
      try clear c19
      try clear c21
      try clear hcz10_0
      try clear hcz10_1
      try clear hcz10_2
      try clear hcz10_3
      try clear hcz14_0
      try clear hcz14_1
      try clear hcz14_2
      try clear hcz14_3
      try clear hcz15_0
      try clear hcz15_1
      try clear hcz15_2
      try clear hcz15_3
      try clear hcz19_0
      try clear hcz19_1
      try clear hcz19_2
      try clear hcz19_3
      try clear hcz20_0
      try clear hcz20_1
      try clear hcz20_2
      try clear hcz20_3
      try clear hcz22_0
      try clear hcz22_1
      try clear hcz22_2
      try clear hcz22_3
      try clear hcz23_0
      try clear hcz23_1
      try clear hcz23_2
      try clear hcz23_3
      try clear hfz10_0
      try clear hfz10_1
      try clear hfz10_2
      try clear hfz10_3
      try clear hfz14_0
      try clear hfz14_1
      try clear hfz14_2
      try clear hfz14_3
      try clear hfz15_0
      try clear hfz15_1
      try clear hfz15_2
      try clear hfz15_3
      try clear hfz19_0
      try clear hfz19_1
      try clear hfz19_2
      try clear hfz19_3
      try clear hfz20_0
      try clear hfz20_1
      try clear hfz20_2
      try clear hfz20_3
      try clear hfz22_0
      try clear hfz22_1
      try clear hfz22_2
      try clear hfz22_3
      try clear hfz23_0
      try clear hfz23_1
      try clear hfz23_2
      try clear hfz23_3
      obtain ⟨kq, x46_6, rfl, HA, HJ6, BK178, BK185, HB⟩ := hcut
      cases kq with
      | zero => exact absurd HA.out (by simp [cartouchelaw07_RedactHides.j0])
      | succ kj6 =>
        have H := HA.out
        clear HA
        simp only [cartouchelaw07_RedactHides.j0] at H
        by_cases c24 : x46_6 = true
        · subst c24
          have H1 : (some false) = some r := by rw [if_pos rfl] at H; exact H
          clear H
          have H := H1
          clear H1
          obtain rfl := Option.some.inj H
          go_wp2
          go_ret
          exact ⟨by first | rfl | (simp [errW_none, errW_some] <;> rfl) | (simp [*, errW_none, errW_some] <;> rfl) | (simp [bne]; done) | (simp [*, bne]; done), by repeat (first | (with_reducible first | exact HB.out | apply below_alloc | apply pw_below_drewN | apply below_drew1 | refine below_set ?_ GE178.out | refine below_set ?_ GE185.out) | exact HB.out)⟩
        · replace c24 := Bool.eq_false_iff.mpr c24
          subst c24
          have H1 : (if a1_0 = 2 then (if t179 = true then (if (t182.size : Int) = 32 then (if (((t183.size : Int) == 32) == (a1_3.toList != ([] : List UInt8))) = true then (some (((t183.size : Int) == 0) == (a1_3.toList == ([] : List UInt8)))) else (some false)) else (some false)) else (some false)) else (if a1_0 = 3 then (if t179 = true then (if (t182.size : Int) = 32 then (if (((t183.size : Int) == 32) == (a1_3.toList != ([] : List UInt8))) = true then (some (((t183.size : Int) == 0) == (a1_3.toList == ([] : List UInt8)))) else (some false)) else (some false)) else (some false)) else (if t179 = true then (some (t180 == a1_0 && (t181 == a1_1 && (t182.toList == a1_2.toList && (t183.toList == a1_3.toList))))) else (some false)))) = some r := by rw [if_neg (show ¬ (false = true) by decide)] at H; exact H
          clear H
          have H := H1
          clear H1
          by_cases c25 : a1_0 = 2
          · rw [if_pos c25] at H
            have c25b0 : (a1_0 == 2) = true := beq_iff_eq.mpr c25
            have c25b1 : (a1_0 != 2) = false := bne_eq_false_iff_eq.mpr c25
            clear c25
            by_cases c26 : t179 = true
            · subst c26
              have H1 : (if (t182.size : Int) = 32 then (if (((t183.size : Int) == 32) == (a1_3.toList != ([] : List UInt8))) = true then (some (((t183.size : Int) == 0) == (a1_3.toList == ([] : List UInt8)))) else (some false)) else (some false)) = some r := by rw [if_pos rfl] at H; exact H
              clear H
              have H := H1
              clear H1
              by_cases c27 : (t182.size : Int) = 32
              · rw [if_pos c27] at H
                have c27b0 : ((t182.size : Int) == 32) = true := beq_iff_eq.mpr c27
                have c27b1 : ((t182.size : Int) != 32) = false := bne_eq_false_iff_eq.mpr c27
                clear c27
                by_cases c28 : (((t183.size : Int) == 32) == (a1_3.toList != ([] : List UInt8))) = true
                · rw [if_pos c28] at H
                  have c28b0 : (((t183.size : Int) == 32) == (a1_3.toList != ([] : List UInt8))) = true := c28
                  (try (have c28b1 : decide (((t183.size : Int) == 32) = (a1_3.toList != ([] : List UInt8))) = true := by simpa using c28))
                  (try (have c28b2 : (((t183.size : Int) == 32) == (a1_3.toList != ([] : List UInt8))) = true := by simpa using c28))
                  have c28b4 : ((t183.size : Int) == 32) = !a1_3.toList.isEmpty := by simpa [bne] using c28
                  clear c28
                  obtain rfl := Option.some.inj H
                  have hnb29 := NB178_185.out
                  have hnc29 := NB185_178.out
                  have hcz30_0 : wc.cell? ⟨gb178, 0, none⟩ = some (.int .i64 a1_0) := (blk_cell BK178.out 0).trans rfl
                  have hcz30_1 : wc.cell? ⟨gb178, 1, none⟩ = some (.int .i64 a1_1) := (blk_cell BK178.out 1).trans rfl
                  have hcz30_2 : wc.cell? ⟨gb178, 2, none⟩ = some (.string a1_2) := (blk_cell BK178.out 2).trans rfl
                  have hcz30_3 : wc.cell? ⟨gb178, 3, none⟩ = some (.string a1_3) := (blk_cell BK178.out 3).trans rfl
                  have hfz30_0 := blk_frozen BK178.out 0
                  have hfz30_1 := blk_frozen BK178.out 1
                  have hfz30_2 := blk_frozen BK178.out 2
                  have hfz30_3 := blk_frozen BK178.out 3
                  have hcz31_0 : wc.cell? ⟨gb185, 0, none⟩ = some (.int .i64 t180) := (blk_cell BK185.out 0).trans rfl
                  have hcz31_1 : wc.cell? ⟨gb185, 1, none⟩ = some (.int .i64 t181) := (blk_cell BK185.out 1).trans rfl
                  have hcz31_2 : wc.cell? ⟨gb185, 2, none⟩ = some (.string t182) := (blk_cell BK185.out 2).trans rfl
                  have hcz31_3 : wc.cell? ⟨gb185, 3, none⟩ = some (.string t183) := (blk_cell BK185.out 3).trans rfl
                  have hfz31_0 := blk_frozen BK185.out 0
                  have hfz31_1 := blk_frozen BK185.out 1
                  have hfz31_2 := blk_frozen BK185.out 2
                  have hfz31_3 := blk_frozen BK185.out 3
                  go_wp2
                  go_ret
                  exact ⟨by first | rfl | (simp [errW_none, errW_some] <;> rfl) | (simp [*, errW_none, errW_some] <;> rfl) | (simp [bne]; done) | (simp [*, bne]; done), by repeat (first | (with_reducible first | exact HB.out | apply below_alloc | apply pw_below_drewN | apply below_drew1 | refine below_set ?_ GE178.out | refine below_set ?_ GE185.out) | exact HB.out)⟩
                · rw [if_neg c28] at H
                  have c28b0 : (((t183.size : Int) == 32) == (a1_3.toList != ([] : List UInt8))) = false := by simpa using c28
                  (try (have c28b1 : decide (((t183.size : Int) == 32) = (a1_3.toList != ([] : List UInt8))) = false := by simpa using c28))
                  (try (have c28b2 : (((t183.size : Int) == 32) == (a1_3.toList != ([] : List UInt8))) = false := by simpa using c28))
                  have c28b4 : ¬ (((t183.size : Int) == 32) = !a1_3.toList.isEmpty) := by simpa [bne] using c28
                  (try (have c28b3 : ¬ (((t183.size : Int) == 32) = (a1_3.toList != ([] : List UInt8))) := by simpa using c28))
                  clear c28
                  obtain rfl := Option.some.inj H
                  have hnb32 := NB178_185.out
                  have hnc32 := NB185_178.out
                  have hcz33_0 : wc.cell? ⟨gb178, 0, none⟩ = some (.int .i64 a1_0) := (blk_cell BK178.out 0).trans rfl
                  have hcz33_1 : wc.cell? ⟨gb178, 1, none⟩ = some (.int .i64 a1_1) := (blk_cell BK178.out 1).trans rfl
                  have hcz33_2 : wc.cell? ⟨gb178, 2, none⟩ = some (.string a1_2) := (blk_cell BK178.out 2).trans rfl
                  have hcz33_3 : wc.cell? ⟨gb178, 3, none⟩ = some (.string a1_3) := (blk_cell BK178.out 3).trans rfl
                  have hfz33_0 := blk_frozen BK178.out 0
                  have hfz33_1 := blk_frozen BK178.out 1
                  have hfz33_2 := blk_frozen BK178.out 2
                  have hfz33_3 := blk_frozen BK178.out 3
                  have hcz34_0 : wc.cell? ⟨gb185, 0, none⟩ = some (.int .i64 t180) := (blk_cell BK185.out 0).trans rfl
                  have hcz34_1 : wc.cell? ⟨gb185, 1, none⟩ = some (.int .i64 t181) := (blk_cell BK185.out 1).trans rfl
                  have hcz34_2 : wc.cell? ⟨gb185, 2, none⟩ = some (.string t182) := (blk_cell BK185.out 2).trans rfl
                  have hcz34_3 : wc.cell? ⟨gb185, 3, none⟩ = some (.string t183) := (blk_cell BK185.out 3).trans rfl
                  have hfz34_0 := blk_frozen BK185.out 0
                  have hfz34_1 := blk_frozen BK185.out 1
                  have hfz34_2 := blk_frozen BK185.out 2
                  have hfz34_3 := blk_frozen BK185.out 3
                  go_wp2
                  go_ret
                  exact ⟨by first | rfl | (simp [errW_none, errW_some] <;> rfl) | (simp [*, errW_none, errW_some] <;> rfl) | (simp [bne]; done) | (simp [*, bne]; done), by repeat (first | (with_reducible first | exact HB.out | apply below_alloc | apply pw_below_drewN | apply below_drew1 | refine below_set ?_ GE178.out | refine below_set ?_ GE185.out) | exact HB.out)⟩
              · rw [if_neg c27] at H
                have c27b0 : ((t182.size : Int) == 32) = false := beq_eq_false_iff_ne.mpr c27
                have c27b1 : ((t182.size : Int) != 32) = true := bne_iff_ne.mpr c27
                obtain rfl := Option.some.inj H
                have hnb35 := NB178_185.out
                have hnc35 := NB185_178.out
                have hcz36_0 : wc.cell? ⟨gb178, 0, none⟩ = some (.int .i64 a1_0) := (blk_cell BK178.out 0).trans rfl
                have hcz36_1 : wc.cell? ⟨gb178, 1, none⟩ = some (.int .i64 a1_1) := (blk_cell BK178.out 1).trans rfl
                have hcz36_2 : wc.cell? ⟨gb178, 2, none⟩ = some (.string a1_2) := (blk_cell BK178.out 2).trans rfl
                have hcz36_3 : wc.cell? ⟨gb178, 3, none⟩ = some (.string a1_3) := (blk_cell BK178.out 3).trans rfl
                have hfz36_0 := blk_frozen BK178.out 0
                have hfz36_1 := blk_frozen BK178.out 1
                have hfz36_2 := blk_frozen BK178.out 2
                have hfz36_3 := blk_frozen BK178.out 3
                have hcz37_0 : wc.cell? ⟨gb185, 0, none⟩ = some (.int .i64 t180) := (blk_cell BK185.out 0).trans rfl
                have hcz37_1 : wc.cell? ⟨gb185, 1, none⟩ = some (.int .i64 t181) := (blk_cell BK185.out 1).trans rfl
                have hcz37_2 : wc.cell? ⟨gb185, 2, none⟩ = some (.string t182) := (blk_cell BK185.out 2).trans rfl
                have hcz37_3 : wc.cell? ⟨gb185, 3, none⟩ = some (.string t183) := (blk_cell BK185.out 3).trans rfl
                have hfz37_0 := blk_frozen BK185.out 0
                have hfz37_1 := blk_frozen BK185.out 1
                have hfz37_2 := blk_frozen BK185.out 2
                have hfz37_3 := blk_frozen BK185.out 3
                go_wp2
                go_ret
                exact ⟨by first | rfl | (simp [errW_none, errW_some] <;> rfl) | (simp [*, errW_none, errW_some] <;> rfl) | (simp [bne]; done) | (simp [*, bne]; done), by repeat (first | (with_reducible first | exact HB.out | apply below_alloc | apply pw_below_drewN | apply below_drew1 | refine below_set ?_ GE178.out | refine below_set ?_ GE185.out) | exact HB.out)⟩
            · replace c26 := Bool.eq_false_iff.mpr c26
              subst c26
              have H1 : (some false) = some r := by rw [if_neg (show ¬ (false = true) by decide)] at H; exact H
              clear H
              have H := H1
              clear H1
              obtain rfl := Option.some.inj H
              have hnb38 := NB178_185.out
              have hnc38 := NB185_178.out
              have hcz39_0 : wc.cell? ⟨gb178, 0, none⟩ = some (.int .i64 a1_0) := (blk_cell BK178.out 0).trans rfl
              have hcz39_1 : wc.cell? ⟨gb178, 1, none⟩ = some (.int .i64 a1_1) := (blk_cell BK178.out 1).trans rfl
              have hcz39_2 : wc.cell? ⟨gb178, 2, none⟩ = some (.string a1_2) := (blk_cell BK178.out 2).trans rfl
              have hcz39_3 : wc.cell? ⟨gb178, 3, none⟩ = some (.string a1_3) := (blk_cell BK178.out 3).trans rfl
              have hfz39_0 := blk_frozen BK178.out 0
              have hfz39_1 := blk_frozen BK178.out 1
              have hfz39_2 := blk_frozen BK178.out 2
              have hfz39_3 := blk_frozen BK178.out 3
              go_wp2
              go_ret
              exact ⟨by first | rfl | (simp [errW_none, errW_some] <;> rfl) | (simp [*, errW_none, errW_some] <;> rfl) | (simp [bne]; done) | (simp [*, bne]; done), by repeat (first | (with_reducible first | exact HB.out | apply below_alloc | apply pw_below_drewN | apply below_drew1 | refine below_set ?_ GE178.out | refine below_set ?_ GE185.out) | exact HB.out)⟩
          · rw [if_neg c25] at H
            have c25b0 : (a1_0 == 2) = false := beq_eq_false_iff_ne.mpr c25
            have c25b1 : (a1_0 != 2) = true := bne_iff_ne.mpr c25
            by_cases c40 : a1_0 = 3
            · rw [if_pos c40] at H
              have c40b0 : (a1_0 == 3) = true := beq_iff_eq.mpr c40
              have c40b1 : (a1_0 != 3) = false := bne_eq_false_iff_eq.mpr c40
              clear c40
              by_cases c41 : t179 = true
              · subst c41
                have H1 : (if (t182.size : Int) = 32 then (if (((t183.size : Int) == 32) == (a1_3.toList != ([] : List UInt8))) = true then (some (((t183.size : Int) == 0) == (a1_3.toList == ([] : List UInt8)))) else (some false)) else (some false)) = some r := by rw [if_pos rfl] at H; exact H
                clear H
                have H := H1
                clear H1
                by_cases c42 : (t182.size : Int) = 32
                · rw [if_pos c42] at H
                  have c42b0 : ((t182.size : Int) == 32) = true := beq_iff_eq.mpr c42
                  have c42b1 : ((t182.size : Int) != 32) = false := bne_eq_false_iff_eq.mpr c42
                  clear c42
                  by_cases c43 : (((t183.size : Int) == 32) == (a1_3.toList != ([] : List UInt8))) = true
                  · rw [if_pos c43] at H
                    have c43b0 : (((t183.size : Int) == 32) == (a1_3.toList != ([] : List UInt8))) = true := c43
                    (try (have c43b1 : decide (((t183.size : Int) == 32) = (a1_3.toList != ([] : List UInt8))) = true := by simpa using c43))
                    (try (have c43b2 : (((t183.size : Int) == 32) == (a1_3.toList != ([] : List UInt8))) = true := by simpa using c43))
                    have c43b4 : ((t183.size : Int) == 32) = !a1_3.toList.isEmpty := by simpa [bne] using c43
                    clear c43
                    obtain rfl := Option.some.inj H
                    have hnb44 := NB178_185.out
                    have hnc44 := NB185_178.out
                    have hcz45_0 : wc.cell? ⟨gb178, 0, none⟩ = some (.int .i64 a1_0) := (blk_cell BK178.out 0).trans rfl
                    have hcz45_1 : wc.cell? ⟨gb178, 1, none⟩ = some (.int .i64 a1_1) := (blk_cell BK178.out 1).trans rfl
                    have hcz45_2 : wc.cell? ⟨gb178, 2, none⟩ = some (.string a1_2) := (blk_cell BK178.out 2).trans rfl
                    have hcz45_3 : wc.cell? ⟨gb178, 3, none⟩ = some (.string a1_3) := (blk_cell BK178.out 3).trans rfl
                    have hfz45_0 := blk_frozen BK178.out 0
                    have hfz45_1 := blk_frozen BK178.out 1
                    have hfz45_2 := blk_frozen BK178.out 2
                    have hfz45_3 := blk_frozen BK178.out 3
                    have hcz46_0 : wc.cell? ⟨gb185, 0, none⟩ = some (.int .i64 t180) := (blk_cell BK185.out 0).trans rfl
                    have hcz46_1 : wc.cell? ⟨gb185, 1, none⟩ = some (.int .i64 t181) := (blk_cell BK185.out 1).trans rfl
                    have hcz46_2 : wc.cell? ⟨gb185, 2, none⟩ = some (.string t182) := (blk_cell BK185.out 2).trans rfl
                    have hcz46_3 : wc.cell? ⟨gb185, 3, none⟩ = some (.string t183) := (blk_cell BK185.out 3).trans rfl
                    have hfz46_0 := blk_frozen BK185.out 0
                    have hfz46_1 := blk_frozen BK185.out 1
                    have hfz46_2 := blk_frozen BK185.out 2
                    have hfz46_3 := blk_frozen BK185.out 3
                    go_wp2
                    go_ret
                    exact ⟨by first | rfl | (simp [errW_none, errW_some] <;> rfl) | (simp [*, errW_none, errW_some] <;> rfl) | (simp [bne]; done) | (simp [*, bne]; done), by repeat (first | (with_reducible first | exact HB.out | apply below_alloc | apply pw_below_drewN | apply below_drew1 | refine below_set ?_ GE178.out | refine below_set ?_ GE185.out) | exact HB.out)⟩
                  · rw [if_neg c43] at H
                    have c43b0 : (((t183.size : Int) == 32) == (a1_3.toList != ([] : List UInt8))) = false := by simpa using c43
                    (try (have c43b1 : decide (((t183.size : Int) == 32) = (a1_3.toList != ([] : List UInt8))) = false := by simpa using c43))
                    (try (have c43b2 : (((t183.size : Int) == 32) == (a1_3.toList != ([] : List UInt8))) = false := by simpa using c43))
                    have c43b4 : ¬ (((t183.size : Int) == 32) = !a1_3.toList.isEmpty) := by simpa [bne] using c43
                    (try (have c43b3 : ¬ (((t183.size : Int) == 32) = (a1_3.toList != ([] : List UInt8))) := by simpa using c43))
                    clear c43
                    obtain rfl := Option.some.inj H
                    have hnb47 := NB178_185.out
                    have hnc47 := NB185_178.out
                    have hcz48_0 : wc.cell? ⟨gb178, 0, none⟩ = some (.int .i64 a1_0) := (blk_cell BK178.out 0).trans rfl
                    have hcz48_1 : wc.cell? ⟨gb178, 1, none⟩ = some (.int .i64 a1_1) := (blk_cell BK178.out 1).trans rfl
                    have hcz48_2 : wc.cell? ⟨gb178, 2, none⟩ = some (.string a1_2) := (blk_cell BK178.out 2).trans rfl
                    have hcz48_3 : wc.cell? ⟨gb178, 3, none⟩ = some (.string a1_3) := (blk_cell BK178.out 3).trans rfl
                    have hfz48_0 := blk_frozen BK178.out 0
                    have hfz48_1 := blk_frozen BK178.out 1
                    have hfz48_2 := blk_frozen BK178.out 2
                    have hfz48_3 := blk_frozen BK178.out 3
                    have hcz49_0 : wc.cell? ⟨gb185, 0, none⟩ = some (.int .i64 t180) := (blk_cell BK185.out 0).trans rfl
                    have hcz49_1 : wc.cell? ⟨gb185, 1, none⟩ = some (.int .i64 t181) := (blk_cell BK185.out 1).trans rfl
                    have hcz49_2 : wc.cell? ⟨gb185, 2, none⟩ = some (.string t182) := (blk_cell BK185.out 2).trans rfl
                    have hcz49_3 : wc.cell? ⟨gb185, 3, none⟩ = some (.string t183) := (blk_cell BK185.out 3).trans rfl
                    have hfz49_0 := blk_frozen BK185.out 0
                    have hfz49_1 := blk_frozen BK185.out 1
                    have hfz49_2 := blk_frozen BK185.out 2
                    have hfz49_3 := blk_frozen BK185.out 3
                    go_wp2
                    go_ret
                    exact ⟨by first | rfl | (simp [errW_none, errW_some] <;> rfl) | (simp [*, errW_none, errW_some] <;> rfl) | (simp [bne]; done) | (simp [*, bne]; done), by repeat (first | (with_reducible first | exact HB.out | apply below_alloc | apply pw_below_drewN | apply below_drew1 | refine below_set ?_ GE178.out | refine below_set ?_ GE185.out) | exact HB.out)⟩
                · rw [if_neg c42] at H
                  have c42b0 : ((t182.size : Int) == 32) = false := beq_eq_false_iff_ne.mpr c42
                  have c42b1 : ((t182.size : Int) != 32) = true := bne_iff_ne.mpr c42
                  obtain rfl := Option.some.inj H
                  have hnb50 := NB178_185.out
                  have hnc50 := NB185_178.out
                  have hcz51_0 : wc.cell? ⟨gb178, 0, none⟩ = some (.int .i64 a1_0) := (blk_cell BK178.out 0).trans rfl
                  have hcz51_1 : wc.cell? ⟨gb178, 1, none⟩ = some (.int .i64 a1_1) := (blk_cell BK178.out 1).trans rfl
                  have hcz51_2 : wc.cell? ⟨gb178, 2, none⟩ = some (.string a1_2) := (blk_cell BK178.out 2).trans rfl
                  have hcz51_3 : wc.cell? ⟨gb178, 3, none⟩ = some (.string a1_3) := (blk_cell BK178.out 3).trans rfl
                  have hfz51_0 := blk_frozen BK178.out 0
                  have hfz51_1 := blk_frozen BK178.out 1
                  have hfz51_2 := blk_frozen BK178.out 2
                  have hfz51_3 := blk_frozen BK178.out 3
                  have hcz52_0 : wc.cell? ⟨gb185, 0, none⟩ = some (.int .i64 t180) := (blk_cell BK185.out 0).trans rfl
                  have hcz52_1 : wc.cell? ⟨gb185, 1, none⟩ = some (.int .i64 t181) := (blk_cell BK185.out 1).trans rfl
                  have hcz52_2 : wc.cell? ⟨gb185, 2, none⟩ = some (.string t182) := (blk_cell BK185.out 2).trans rfl
                  have hcz52_3 : wc.cell? ⟨gb185, 3, none⟩ = some (.string t183) := (blk_cell BK185.out 3).trans rfl
                  have hfz52_0 := blk_frozen BK185.out 0
                  have hfz52_1 := blk_frozen BK185.out 1
                  have hfz52_2 := blk_frozen BK185.out 2
                  have hfz52_3 := blk_frozen BK185.out 3
                  go_wp2
                  go_ret
                  exact ⟨by first | rfl | (simp [errW_none, errW_some] <;> rfl) | (simp [*, errW_none, errW_some] <;> rfl) | (simp [bne]; done) | (simp [*, bne]; done), by repeat (first | (with_reducible first | exact HB.out | apply below_alloc | apply pw_below_drewN | apply below_drew1 | refine below_set ?_ GE178.out | refine below_set ?_ GE185.out) | exact HB.out)⟩
              · replace c41 := Bool.eq_false_iff.mpr c41
                subst c41
                have H1 : (some false) = some r := by rw [if_neg (show ¬ (false = true) by decide)] at H; exact H
                clear H
                have H := H1
                clear H1
                obtain rfl := Option.some.inj H
                have hnb53 := NB178_185.out
                have hnc53 := NB185_178.out
                have hcz54_0 : wc.cell? ⟨gb178, 0, none⟩ = some (.int .i64 a1_0) := (blk_cell BK178.out 0).trans rfl
                have hcz54_1 : wc.cell? ⟨gb178, 1, none⟩ = some (.int .i64 a1_1) := (blk_cell BK178.out 1).trans rfl
                have hcz54_2 : wc.cell? ⟨gb178, 2, none⟩ = some (.string a1_2) := (blk_cell BK178.out 2).trans rfl
                have hcz54_3 : wc.cell? ⟨gb178, 3, none⟩ = some (.string a1_3) := (blk_cell BK178.out 3).trans rfl
                have hfz54_0 := blk_frozen BK178.out 0
                have hfz54_1 := blk_frozen BK178.out 1
                have hfz54_2 := blk_frozen BK178.out 2
                have hfz54_3 := blk_frozen BK178.out 3
                go_wp2
                go_ret
                exact ⟨by first | rfl | (simp [errW_none, errW_some] <;> rfl) | (simp [*, errW_none, errW_some] <;> rfl) | (simp [bne]; done) | (simp [*, bne]; done), by repeat (first | (with_reducible first | exact HB.out | apply below_alloc | apply pw_below_drewN | apply below_drew1 | refine below_set ?_ GE178.out | refine below_set ?_ GE185.out) | exact HB.out)⟩
            · rw [if_neg c40] at H
              have c40b0 : (a1_0 == 3) = false := beq_eq_false_iff_ne.mpr c40
              have c40b1 : (a1_0 != 3) = true := bne_iff_ne.mpr c40
              by_cases c55 : t179 = true
              · subst c55
                have H1 : (some (t180 == a1_0 && (t181 == a1_1 && (t182.toList == a1_2.toList && (t183.toList == a1_3.toList))))) = some r := by rw [if_pos rfl] at H; exact H
                clear H
                have H := H1
                clear H1
                obtain rfl := Option.some.inj H
                have hnb56 := NB178_185.out
                have hnc56 := NB185_178.out
                have hcz57_0 : wc.cell? ⟨gb178, 0, none⟩ = some (.int .i64 a1_0) := (blk_cell BK178.out 0).trans rfl
                have hcz57_1 : wc.cell? ⟨gb178, 1, none⟩ = some (.int .i64 a1_1) := (blk_cell BK178.out 1).trans rfl
                have hcz57_2 : wc.cell? ⟨gb178, 2, none⟩ = some (.string a1_2) := (blk_cell BK178.out 2).trans rfl
                have hcz57_3 : wc.cell? ⟨gb178, 3, none⟩ = some (.string a1_3) := (blk_cell BK178.out 3).trans rfl
                have hfz57_0 := blk_frozen BK178.out 0
                have hfz57_1 := blk_frozen BK178.out 1
                have hfz57_2 := blk_frozen BK178.out 2
                have hfz57_3 := blk_frozen BK178.out 3
                have hcz58_0 : wc.cell? ⟨gb185, 0, none⟩ = some (.int .i64 t180) := (blk_cell BK185.out 0).trans rfl
                have hcz58_1 : wc.cell? ⟨gb185, 1, none⟩ = some (.int .i64 t181) := (blk_cell BK185.out 1).trans rfl
                have hcz58_2 : wc.cell? ⟨gb185, 2, none⟩ = some (.string t182) := (blk_cell BK185.out 2).trans rfl
                have hcz58_3 : wc.cell? ⟨gb185, 3, none⟩ = some (.string t183) := (blk_cell BK185.out 3).trans rfl
                have hfz58_0 := blk_frozen BK185.out 0
                have hfz58_1 := blk_frozen BK185.out 1
                have hfz58_2 := blk_frozen BK185.out 2
                have hfz58_3 := blk_frozen BK185.out 3
                go_wp2
                go_ret
                exact ⟨by first | rfl | (simp [errW_none, errW_some] <;> rfl) | (simp [*, errW_none, errW_some] <;> rfl) | (simp [bne]; done) | (simp [*, bne]; done), by repeat (first | (with_reducible first | exact HB.out | apply below_alloc | apply pw_below_drewN | apply below_drew1 | refine below_set ?_ GE178.out | refine below_set ?_ GE185.out) | exact HB.out)⟩
              · replace c55 := Bool.eq_false_iff.mpr c55
                subst c55
                have H1 : (some false) = some r := by rw [if_neg (show ¬ (false = true) by decide)] at H; exact H
                clear H
                have H := H1
                clear H1
                obtain rfl := Option.some.inj H
                have hnb59 := NB178_185.out
                have hnc59 := NB185_178.out
                have hcz60_0 : wc.cell? ⟨gb178, 0, none⟩ = some (.int .i64 a1_0) := (blk_cell BK178.out 0).trans rfl
                have hcz60_1 : wc.cell? ⟨gb178, 1, none⟩ = some (.int .i64 a1_1) := (blk_cell BK178.out 1).trans rfl
                have hcz60_2 : wc.cell? ⟨gb178, 2, none⟩ = some (.string a1_2) := (blk_cell BK178.out 2).trans rfl
                have hcz60_3 : wc.cell? ⟨gb178, 3, none⟩ = some (.string a1_3) := (blk_cell BK178.out 3).trans rfl
                have hfz60_0 := blk_frozen BK178.out 0
                have hfz60_1 := blk_frozen BK178.out 1
                have hfz60_2 := blk_frozen BK178.out 2
                have hfz60_3 := blk_frozen BK178.out 3
                go_wp2
                go_ret
                exact ⟨by first | rfl | (simp [errW_none, errW_some] <;> rfl) | (simp [*, errW_none, errW_some] <;> rfl) | (simp [bne]; done) | (simp [*, bne]; done), by repeat (first | (with_reducible first | exact HB.out | apply below_alloc | apply pw_below_drewN | apply below_drew1 | refine below_set ?_ GE178.out | refine below_set ?_ GE185.out) | exact HB.out)⟩
  · rw [if_neg c6] at H
    have c6b0 : (t184 == 0) = false := beq_eq_false_iff_ne.mpr c6
    have c6b1 : (t184 != 0) = true := bne_iff_ne.mpr c6
    by_cases c61 : t179 = true
    · subst c61
      have H1 : (if t186 = true then (if (a0.size : Int) < 1 then (some true) else (some (decide ((a0.size : Int) > 32)))) else (some true)) = some r := by rw [if_pos rfl] at H; exact H
      clear H
      have H := H1
      clear H1
      by_cases c62 : t186 = true
      · subst c62
        have H1 : (if (a0.size : Int) < 1 then (some true) else (some (decide ((a0.size : Int) > 32)))) = some r := by rw [if_pos rfl] at H; exact H
        clear H
        have H := H1
        clear H1
        by_cases c63 : (a0.size : Int) < 1
        · rw [if_pos c63] at H
          have c63b0 : decide ((a0.size : Int) < 1) = true := decide_eq_true c63
          have c63b1 : decide (a0.size < 1) = true := decide_eq_true (by omega)
          clear c63
          obtain rfl := Option.some.inj H
          go_enter Tryd.func6, Tryd.ntmps6
          go_wp2_with (first | ((with_reducible refine gate_dst (N := 3) rfl ?_); (try (refine gate_guard (by rfl) ?_; dsimp only)); refine box_event ?hg (N := 3) ?hd (cs := #[.int .i64 a1_0, .int .i64 a1_1, .string a1_2, .string a1_3]) (t := 26) ?hr ?_; (case hd => rfl); (case hg => rfl); (case hr => first | (go_simp; done) | (go_simp; rfl)); intro gb178 hg w64 hbox hb; have n0_ := Aside0.mk (below_step (by repeat (first | (with_reducible first | exact HB.out | apply below_alloc | apply pw_below_drewN | apply below_drew1) | exact HB.out)) hb); have n1_ := Aside0.mk (hbox); have n2_ := Aside0.mk ((by rw [hg]; exact (below_size (by repeat (first | (with_reducible first | exact HB.out | apply below_alloc | apply pw_below_drewN | apply below_drew1) | exact HB.out))) : w.heap.size ≤ gb178)); have n3_ := Aside0.mk ((by rw [hg]; exact (below_size (by repeat (first | (with_reducible first | exact HB.out | apply below_alloc | apply pw_below_drewN | apply below_drew1) | exact HB.out))) : w.heap.size ≤ gb178)); clear HB; have HB := n0_; have BK178 := n1_; have GW178 := n2_; have GE178 := n3_; clear n0_ n1_ n2_ n3_; clear hb hbox hg) | ((with_reducible refine look_callee (f := 9) rfl ?_); refine goesL_ (some 9) rfl rfl Tryd.func9 (by kernel_rfl) rfl #[] rfl (by (try simp only [List.map_toArray, List.map_cons, List.map_nil]); first | done | rfl | (simp only [List.length_drop, List.length_take]; rfl)) ?_; (with_reducible refine (cartouchelaw07_shown.calls  true _ A3.out).mono ?_); rintro e w65 ⟨rfl, hb⟩; refine ⟨_, rfl, ?_⟩; have n0_ := Aside0.mk (blk_below (g := gb178) (o := .cells #[.int .i64 a1_0, .int .i64 a1_1, .string a1_2, .string a1_3] 26 (0, 0)) (by (with_reducible repeat (first | refine blk_drewN ?_ _ | refine blk_drew ?_ | refine blk_alloc ?_ _)); exact BK178.out) hb); have n1_ := Aside0.mk (below_step (by repeat (first | (with_reducible first | exact HB.out | apply below_alloc | apply pw_below_drewN | apply below_drew1 | refine below_set ?_ GE178.out) | exact HB.out)) hb); clear BK178; clear HB; have BK178 := n0_; have HB := n1_; clear n0_ n1_; (try clear hb); (try clear hb2); (try clear hk); (try clear hi); have hcz66_0 : w65.cell? ⟨gb178, 0, none⟩ = some (.int .i64 a1_0) := (blk_cell BK178.out 0).trans rfl; have hcz66_1 : w65.cell? ⟨gb178, 1, none⟩ = some (.int .i64 a1_1) := (blk_cell BK178.out 1).trans rfl; have hcz66_2 : w65.cell? ⟨gb178, 2, none⟩ = some (.string a1_2) := (blk_cell BK178.out 2).trans rfl; have hcz66_3 : w65.cell? ⟨gb178, 3, none⟩ = some (.string a1_3) := (blk_cell BK178.out 3).trans rfl; have hfz66_0 := blk_frozen BK178.out 0; have hfz66_1 := blk_frozen BK178.out 1; have hfz66_2 := blk_frozen BK178.out 2; have hfz66_3 := blk_frozen BK178.out 3) | ((with_reducible refine look_callee (f := 17) rfl ?_); refine goesL_ (some 13) rfl rfl Tryd.func17 (by kernel_rfl) rfl #[.string a0, .agg #[.int .i64 a1_0, .int .i64 a1_1, .string a1_2, .string a1_3]] rfl (by (try simp only [List.map_toArray, List.map_cons, List.map_nil]); first | done | rfl | (simp only [List.length_drop, List.length_take]; rfl)) ?_; (with_reducible refine (redact_One.calls k a0 a1_0 a1_1 a1_2 a1_3 t180 t181 t182 t183 t184 _ ?side1 A4.out).mono ?_); (case side1 => exact hT.below (by repeat (first | (with_reducible first | exact HB.out | apply below_alloc | apply pw_below_drewN | apply below_drew1 | refine below_set ?_ GE178.out) | exact HB.out)) hT.size); rintro e w67 ⟨rfl, hb⟩; refine ⟨_, rfl, ?_⟩; have n0_ := Aside0.mk (blk_below (g := gb178) (o := .cells #[.int .i64 a1_0, .int .i64 a1_1, .string a1_2, .string a1_3] 26 (0, 0)) (by (with_reducible repeat (first | refine blk_drewN ?_ _ | refine blk_drew ?_ | refine blk_alloc ?_ _)); exact BK178.out) hb); have n1_ := Aside0.mk (below_step (by repeat (first | (with_reducible first | exact HB.out | apply below_alloc | apply pw_below_drewN | apply below_drew1 | refine below_set ?_ GE178.out) | exact HB.out)) hb); clear BK178; clear HB; have BK178 := n0_; have HB := n1_; clear n0_ n1_; (try clear hb); (try clear hb2); (try clear hk); (try clear hi)) | ((with_reducible refine gate_dst (N := 6) rfl ?_); (try (refine gate_guard (by rfl) ?_; dsimp only)); refine box_event ?hg (N := 6) ?hd (cs := #[.int .i64 0, .int .i64 0, .string (⟨#[]⟩ : ByteArray), .string (⟨#[]⟩ : ByteArray)]) (t := 26) ?hr ?_; (case hd => rfl); (case hg => rfl); (case hr => first | (go_simp; done) | (go_simp; rfl)); intro gb185 hg w68 hbox hb; have n0_ := Aside0.mk (blk_below (g := gb178) (o := .cells #[.int .i64 a1_0, .int .i64 a1_1, .string a1_2, .string a1_3] 26 (0, 0)) (by (with_reducible repeat (first | refine blk_drewN ?_ _ | refine blk_drew ?_ | refine blk_alloc ?_ _)); exact BK178.out) hb); have n1_ := Aside0.mk (below_step (by repeat (first | (with_reducible first | exact HB.out | apply below_alloc | apply pw_below_drewN | apply below_drew1 | refine below_set ?_ GE178.out) | exact HB.out)) hb); have n2_ := Aside0.mk (hbox); have n3_ := Aside0.mk ((by rw [hg]; exact (below_size (by repeat (first | (with_reducible first | exact HB.out | apply below_alloc | apply pw_below_drewN | apply below_drew1 | refine below_set ?_ GE178.out) | exact HB.out))) : w.heap.size ≤ gb185)); have n4_ := Aside0.mk ((by rw [hg]; exact (below_size (by repeat (first | (with_reducible first | exact HB.out | apply below_alloc | apply pw_below_drewN | apply below_drew1 | refine below_set ?_ GE178.out) | exact HB.out))) : w.heap.size ≤ gb185)); have n5_ := Aside0.mk ((by rw [hg]; exact Nat.ne_of_lt (blk_lt (g := gb178) (o := .cells #[.int .i64 a1_0, .int .i64 a1_1, .string a1_2, .string a1_3] 26 (0, 0)) (by (with_reducible repeat (first | refine blk_drewN ?_ _ | refine blk_drew ?_ | refine blk_alloc ?_ _)); exact BK178.out)) : gb178 ≠ gb185)); have n6_ := Aside0.mk ((by rw [hg]; exact Nat.ne_of_gt (blk_lt (g := gb178) (o := .cells #[.int .i64 a1_0, .int .i64 a1_1, .string a1_2, .string a1_3] 26 (0, 0)) (by (with_reducible repeat (first | refine blk_drewN ?_ _ | refine blk_drew ?_ | refine blk_alloc ?_ _)); exact BK178.out)) : gb185 ≠ gb178)); clear BK178; clear HB; have BK178 := n0_; have HB := n1_; have BK185 := n2_; have GW185 := n3_; have GE185 := n4_; have NB178_185 := n5_; have NB185_178 := n6_; clear n0_ n1_ n2_ n3_ n4_ n5_ n6_; clear hb hbox hg; have hnb69 := NB185_178.out; have hnc69 := NB178_185.out; have hcz70_0 : w68.cell? ⟨gb185, 0, none⟩ = some (.int .i64 0) := (blk_cell BK185.out 0).trans rfl; have hcz70_1 : w68.cell? ⟨gb185, 1, none⟩ = some (.int .i64 0) := (blk_cell BK185.out 1).trans rfl; have hcz70_2 : w68.cell? ⟨gb185, 2, none⟩ = some (.string (⟨#[]⟩ : ByteArray)) := (blk_cell BK185.out 2).trans rfl; have hcz70_3 : w68.cell? ⟨gb185, 3, none⟩ = some (.string (⟨#[]⟩ : ByteArray)) := (blk_cell BK185.out 3).trans rfl; have hfz70_0 := blk_frozen BK185.out 0; have hfz70_1 := blk_frozen BK185.out 1; have hfz70_2 := blk_frozen BK185.out 2; have hfz70_3 := blk_frozen BK185.out 3; have hcz71_0 : w68.cell? ⟨gb178, 0, none⟩ = some (.int .i64 a1_0) := (blk_cell BK178.out 0).trans rfl; have hcz71_1 : w68.cell? ⟨gb178, 1, none⟩ = some (.int .i64 a1_1) := (blk_cell BK178.out 1).trans rfl; have hcz71_2 : w68.cell? ⟨gb178, 2, none⟩ = some (.string a1_2) := (blk_cell BK178.out 2).trans rfl; have hcz71_3 : w68.cell? ⟨gb178, 3, none⟩ = some (.string a1_3) := (blk_cell BK178.out 3).trans rfl; have hfz71_0 := blk_frozen BK178.out 0; have hfz71_1 := blk_frozen BK178.out 1; have hfz71_2 := blk_frozen BK178.out 2; have hfz71_3 := blk_frozen BK178.out 3) | ((with_reducible refine look_callee (f := 19) rfl ?_); refine goesL_ (some 17) rfl rfl Tryd.func19 (by kernel_rfl) rfl #[.agg #[.int .i64 a1_0, .int .i64 a1_1, .string a1_2, .string a1_3]] rfl (by (try simp only [List.map_toArray, List.map_cons, List.map_nil]); first | done | rfl | (simp only [List.length_drop, List.length_take]; rfl)) ?_; (with_reducible refine (cartoucheref06_May.calls k a1_0 a1_1 a1_2 a1_3 true _ A5.out).mono ?_); rintro e w72 ⟨rfl, hb⟩; refine ⟨_, rfl, ?_⟩; have n0_ := Aside0.mk (blk_below (g := gb178) (o := .cells #[.int .i64 a1_0, .int .i64 a1_1, .string a1_2, .string a1_3] 26 (0, 0)) (by (with_reducible repeat (first | refine blk_drewN ?_ _ | refine blk_drew ?_ | refine blk_alloc ?_ _)); refine blk_far ?_ NB178_185.out _; (with_reducible repeat (first | refine blk_drewN ?_ _ | refine blk_drew ?_ | refine blk_alloc ?_ _)); refine blk_far ?_ NB178_185.out _; (with_reducible repeat (first | refine blk_drewN ?_ _ | refine blk_drew ?_ | refine blk_alloc ?_ _)); refine blk_far ?_ NB178_185.out _; (with_reducible repeat (first | refine blk_drewN ?_ _ | refine blk_drew ?_ | refine blk_alloc ?_ _)); refine blk_far ?_ NB178_185.out _; (with_reducible repeat (first | refine blk_drewN ?_ _ | refine blk_drew ?_ | refine blk_alloc ?_ _)); exact BK178.out) hb); have n1_ := Aside0.mk (blk_below (g := gb185) (o := .cells #[.int .i64 t180, .int .i64 t181, .string t182, .string t183] 26 (0, 0)) (by (with_reducible repeat (first | refine blk_drewN ?_ _ | refine blk_drew ?_ | refine blk_alloc ?_ _)); refine blk_put (cs := #[.int .i64 t180, .int .i64 t181, .string t182, .string (⟨#[]⟩ : ByteArray)]) ?_ 3 _ rfl; (with_reducible repeat (first | refine blk_drewN ?_ _ | refine blk_drew ?_ | refine blk_alloc ?_ _)); refine blk_put (cs := #[.int .i64 t180, .int .i64 t181, .string (⟨#[]⟩ : ByteArray), .string (⟨#[]⟩ : ByteArray)]) ?_ 2 _ rfl; (with_reducible repeat (first | refine blk_drewN ?_ _ | refine blk_drew ?_ | refine blk_alloc ?_ _)); refine blk_put (cs := #[.int .i64 t180, .int .i64 0, .string (⟨#[]⟩ : ByteArray), .string (⟨#[]⟩ : ByteArray)]) ?_ 1 _ rfl; (with_reducible repeat (first | refine blk_drewN ?_ _ | refine blk_drew ?_ | refine blk_alloc ?_ _)); refine blk_put (cs := #[.int .i64 0, .int .i64 0, .string (⟨#[]⟩ : ByteArray), .string (⟨#[]⟩ : ByteArray)]) ?_ 0 _ rfl; (with_reducible repeat (first | refine blk_drewN ?_ _ | refine blk_drew ?_ | refine blk_alloc ?_ _)); exact BK185.out) hb); have n2_ := Aside0.mk (below_step (by repeat (first | (with_reducible first | exact HB.out | apply below_alloc | apply pw_below_drewN | apply below_drew1 | refine below_set ?_ GE178.out | refine below_set ?_ GE185.out) | exact HB.out)) hb); clear BK178; clear BK185; clear HB; have BK178 := n0_; have BK185 := n1_; have HB := n2_; clear n0_ n1_ n2_; (try clear hb); (try clear hb2); (try clear hk); (try clear hi)))
          go_ret
          exact ⟨by first | rfl | (simp [errW_none, errW_some] <;> rfl) | (simp [*, errW_none, errW_some] <;> rfl) | (simp [bne]; done) | (simp [*, bne]; done), by repeat (first | (with_reducible first | exact HB.out | apply below_alloc | apply pw_below_drewN | apply below_drew1 | refine below_set ?_ GE178.out | refine below_set ?_ GE185.out) | exact HB.out)⟩
        · rw [if_neg c63] at H
          have c63b0 : decide ((a0.size : Int) < 1) = false := decide_eq_false c63
          have c63b1 : decide (a0.size < 1) = false := decide_eq_false (by omega)
          clear c63
          obtain rfl := Option.some.inj H
          go_enter Tryd.func6, Tryd.ntmps6
          go_wp2_with (first | ((with_reducible refine gate_dst (N := 3) rfl ?_); (try (refine gate_guard (by rfl) ?_; dsimp only)); refine box_event ?hg (N := 3) ?hd (cs := #[.int .i64 a1_0, .int .i64 a1_1, .string a1_2, .string a1_3]) (t := 26) ?hr ?_; (case hd => rfl); (case hg => rfl); (case hr => first | (go_simp; done) | (go_simp; rfl)); intro gb178 hg w73 hbox hb; have n0_ := Aside0.mk (below_step (by repeat (first | (with_reducible first | exact HB.out | apply below_alloc | apply pw_below_drewN | apply below_drew1) | exact HB.out)) hb); have n1_ := Aside0.mk (hbox); have n2_ := Aside0.mk ((by rw [hg]; exact (below_size (by repeat (first | (with_reducible first | exact HB.out | apply below_alloc | apply pw_below_drewN | apply below_drew1) | exact HB.out))) : w.heap.size ≤ gb178)); have n3_ := Aside0.mk ((by rw [hg]; exact (below_size (by repeat (first | (with_reducible first | exact HB.out | apply below_alloc | apply pw_below_drewN | apply below_drew1) | exact HB.out))) : w.heap.size ≤ gb178)); clear HB; have HB := n0_; have BK178 := n1_; have GW178 := n2_; have GE178 := n3_; clear n0_ n1_ n2_ n3_; clear hb hbox hg) | ((with_reducible refine look_callee (f := 9) rfl ?_); refine goesL_ (some 9) rfl rfl Tryd.func9 (by kernel_rfl) rfl #[] rfl (by (try simp only [List.map_toArray, List.map_cons, List.map_nil]); first | done | rfl | (simp only [List.length_drop, List.length_take]; rfl)) ?_; (with_reducible refine (cartouchelaw07_shown.calls  true _ A3.out).mono ?_); rintro e w74 ⟨rfl, hb⟩; refine ⟨_, rfl, ?_⟩; have n0_ := Aside0.mk (blk_below (g := gb178) (o := .cells #[.int .i64 a1_0, .int .i64 a1_1, .string a1_2, .string a1_3] 26 (0, 0)) (by (with_reducible repeat (first | refine blk_drewN ?_ _ | refine blk_drew ?_ | refine blk_alloc ?_ _)); exact BK178.out) hb); have n1_ := Aside0.mk (below_step (by repeat (first | (with_reducible first | exact HB.out | apply below_alloc | apply pw_below_drewN | apply below_drew1 | refine below_set ?_ GE178.out) | exact HB.out)) hb); clear BK178; clear HB; have BK178 := n0_; have HB := n1_; clear n0_ n1_; (try clear hb); (try clear hb2); (try clear hk); (try clear hi); have hcz75_0 : w74.cell? ⟨gb178, 0, none⟩ = some (.int .i64 a1_0) := (blk_cell BK178.out 0).trans rfl; have hcz75_1 : w74.cell? ⟨gb178, 1, none⟩ = some (.int .i64 a1_1) := (blk_cell BK178.out 1).trans rfl; have hcz75_2 : w74.cell? ⟨gb178, 2, none⟩ = some (.string a1_2) := (blk_cell BK178.out 2).trans rfl; have hcz75_3 : w74.cell? ⟨gb178, 3, none⟩ = some (.string a1_3) := (blk_cell BK178.out 3).trans rfl; have hfz75_0 := blk_frozen BK178.out 0; have hfz75_1 := blk_frozen BK178.out 1; have hfz75_2 := blk_frozen BK178.out 2; have hfz75_3 := blk_frozen BK178.out 3) | ((with_reducible refine look_callee (f := 17) rfl ?_); refine goesL_ (some 13) rfl rfl Tryd.func17 (by kernel_rfl) rfl #[.string a0, .agg #[.int .i64 a1_0, .int .i64 a1_1, .string a1_2, .string a1_3]] rfl (by (try simp only [List.map_toArray, List.map_cons, List.map_nil]); first | done | rfl | (simp only [List.length_drop, List.length_take]; rfl)) ?_; (with_reducible refine (redact_One.calls k a0 a1_0 a1_1 a1_2 a1_3 t180 t181 t182 t183 t184 _ ?side1 A4.out).mono ?_); (case side1 => exact hT.below (by repeat (first | (with_reducible first | exact HB.out | apply below_alloc | apply pw_below_drewN | apply below_drew1 | refine below_set ?_ GE178.out) | exact HB.out)) hT.size); rintro e w76 ⟨rfl, hb⟩; refine ⟨_, rfl, ?_⟩; have n0_ := Aside0.mk (blk_below (g := gb178) (o := .cells #[.int .i64 a1_0, .int .i64 a1_1, .string a1_2, .string a1_3] 26 (0, 0)) (by (with_reducible repeat (first | refine blk_drewN ?_ _ | refine blk_drew ?_ | refine blk_alloc ?_ _)); exact BK178.out) hb); have n1_ := Aside0.mk (below_step (by repeat (first | (with_reducible first | exact HB.out | apply below_alloc | apply pw_below_drewN | apply below_drew1 | refine below_set ?_ GE178.out) | exact HB.out)) hb); clear BK178; clear HB; have BK178 := n0_; have HB := n1_; clear n0_ n1_; (try clear hb); (try clear hb2); (try clear hk); (try clear hi)) | ((with_reducible refine gate_dst (N := 6) rfl ?_); (try (refine gate_guard (by rfl) ?_; dsimp only)); refine box_event ?hg (N := 6) ?hd (cs := #[.int .i64 0, .int .i64 0, .string (⟨#[]⟩ : ByteArray), .string (⟨#[]⟩ : ByteArray)]) (t := 26) ?hr ?_; (case hd => rfl); (case hg => rfl); (case hr => first | (go_simp; done) | (go_simp; rfl)); intro gb185 hg w77 hbox hb; have n0_ := Aside0.mk (blk_below (g := gb178) (o := .cells #[.int .i64 a1_0, .int .i64 a1_1, .string a1_2, .string a1_3] 26 (0, 0)) (by (with_reducible repeat (first | refine blk_drewN ?_ _ | refine blk_drew ?_ | refine blk_alloc ?_ _)); exact BK178.out) hb); have n1_ := Aside0.mk (below_step (by repeat (first | (with_reducible first | exact HB.out | apply below_alloc | apply pw_below_drewN | apply below_drew1 | refine below_set ?_ GE178.out) | exact HB.out)) hb); have n2_ := Aside0.mk (hbox); have n3_ := Aside0.mk ((by rw [hg]; exact (below_size (by repeat (first | (with_reducible first | exact HB.out | apply below_alloc | apply pw_below_drewN | apply below_drew1 | refine below_set ?_ GE178.out) | exact HB.out))) : w.heap.size ≤ gb185)); have n4_ := Aside0.mk ((by rw [hg]; exact (below_size (by repeat (first | (with_reducible first | exact HB.out | apply below_alloc | apply pw_below_drewN | apply below_drew1 | refine below_set ?_ GE178.out) | exact HB.out))) : w.heap.size ≤ gb185)); have n5_ := Aside0.mk ((by rw [hg]; exact Nat.ne_of_lt (blk_lt (g := gb178) (o := .cells #[.int .i64 a1_0, .int .i64 a1_1, .string a1_2, .string a1_3] 26 (0, 0)) (by (with_reducible repeat (first | refine blk_drewN ?_ _ | refine blk_drew ?_ | refine blk_alloc ?_ _)); exact BK178.out)) : gb178 ≠ gb185)); have n6_ := Aside0.mk ((by rw [hg]; exact Nat.ne_of_gt (blk_lt (g := gb178) (o := .cells #[.int .i64 a1_0, .int .i64 a1_1, .string a1_2, .string a1_3] 26 (0, 0)) (by (with_reducible repeat (first | refine blk_drewN ?_ _ | refine blk_drew ?_ | refine blk_alloc ?_ _)); exact BK178.out)) : gb185 ≠ gb178)); clear BK178; clear HB; have BK178 := n0_; have HB := n1_; have BK185 := n2_; have GW185 := n3_; have GE185 := n4_; have NB178_185 := n5_; have NB185_178 := n6_; clear n0_ n1_ n2_ n3_ n4_ n5_ n6_; clear hb hbox hg; have hnb78 := NB185_178.out; have hnc78 := NB178_185.out; have hcz79_0 : w77.cell? ⟨gb185, 0, none⟩ = some (.int .i64 0) := (blk_cell BK185.out 0).trans rfl; have hcz79_1 : w77.cell? ⟨gb185, 1, none⟩ = some (.int .i64 0) := (blk_cell BK185.out 1).trans rfl; have hcz79_2 : w77.cell? ⟨gb185, 2, none⟩ = some (.string (⟨#[]⟩ : ByteArray)) := (blk_cell BK185.out 2).trans rfl; have hcz79_3 : w77.cell? ⟨gb185, 3, none⟩ = some (.string (⟨#[]⟩ : ByteArray)) := (blk_cell BK185.out 3).trans rfl; have hfz79_0 := blk_frozen BK185.out 0; have hfz79_1 := blk_frozen BK185.out 1; have hfz79_2 := blk_frozen BK185.out 2; have hfz79_3 := blk_frozen BK185.out 3; have hcz80_0 : w77.cell? ⟨gb178, 0, none⟩ = some (.int .i64 a1_0) := (blk_cell BK178.out 0).trans rfl; have hcz80_1 : w77.cell? ⟨gb178, 1, none⟩ = some (.int .i64 a1_1) := (blk_cell BK178.out 1).trans rfl; have hcz80_2 : w77.cell? ⟨gb178, 2, none⟩ = some (.string a1_2) := (blk_cell BK178.out 2).trans rfl; have hcz80_3 : w77.cell? ⟨gb178, 3, none⟩ = some (.string a1_3) := (blk_cell BK178.out 3).trans rfl; have hfz80_0 := blk_frozen BK178.out 0; have hfz80_1 := blk_frozen BK178.out 1; have hfz80_2 := blk_frozen BK178.out 2; have hfz80_3 := blk_frozen BK178.out 3) | ((with_reducible refine look_callee (f := 19) rfl ?_); refine goesL_ (some 17) rfl rfl Tryd.func19 (by kernel_rfl) rfl #[.agg #[.int .i64 a1_0, .int .i64 a1_1, .string a1_2, .string a1_3]] rfl (by (try simp only [List.map_toArray, List.map_cons, List.map_nil]); first | done | rfl | (simp only [List.length_drop, List.length_take]; rfl)) ?_; (with_reducible refine (cartoucheref06_May.calls k a1_0 a1_1 a1_2 a1_3 true _ A5.out).mono ?_); rintro e w81 ⟨rfl, hb⟩; refine ⟨_, rfl, ?_⟩; have n0_ := Aside0.mk (blk_below (g := gb178) (o := .cells #[.int .i64 a1_0, .int .i64 a1_1, .string a1_2, .string a1_3] 26 (0, 0)) (by (with_reducible repeat (first | refine blk_drewN ?_ _ | refine blk_drew ?_ | refine blk_alloc ?_ _)); refine blk_far ?_ NB178_185.out _; (with_reducible repeat (first | refine blk_drewN ?_ _ | refine blk_drew ?_ | refine blk_alloc ?_ _)); refine blk_far ?_ NB178_185.out _; (with_reducible repeat (first | refine blk_drewN ?_ _ | refine blk_drew ?_ | refine blk_alloc ?_ _)); refine blk_far ?_ NB178_185.out _; (with_reducible repeat (first | refine blk_drewN ?_ _ | refine blk_drew ?_ | refine blk_alloc ?_ _)); refine blk_far ?_ NB178_185.out _; (with_reducible repeat (first | refine blk_drewN ?_ _ | refine blk_drew ?_ | refine blk_alloc ?_ _)); exact BK178.out) hb); have n1_ := Aside0.mk (blk_below (g := gb185) (o := .cells #[.int .i64 t180, .int .i64 t181, .string t182, .string t183] 26 (0, 0)) (by (with_reducible repeat (first | refine blk_drewN ?_ _ | refine blk_drew ?_ | refine blk_alloc ?_ _)); refine blk_put (cs := #[.int .i64 t180, .int .i64 t181, .string t182, .string (⟨#[]⟩ : ByteArray)]) ?_ 3 _ rfl; (with_reducible repeat (first | refine blk_drewN ?_ _ | refine blk_drew ?_ | refine blk_alloc ?_ _)); refine blk_put (cs := #[.int .i64 t180, .int .i64 t181, .string (⟨#[]⟩ : ByteArray), .string (⟨#[]⟩ : ByteArray)]) ?_ 2 _ rfl; (with_reducible repeat (first | refine blk_drewN ?_ _ | refine blk_drew ?_ | refine blk_alloc ?_ _)); refine blk_put (cs := #[.int .i64 t180, .int .i64 0, .string (⟨#[]⟩ : ByteArray), .string (⟨#[]⟩ : ByteArray)]) ?_ 1 _ rfl; (with_reducible repeat (first | refine blk_drewN ?_ _ | refine blk_drew ?_ | refine blk_alloc ?_ _)); refine blk_put (cs := #[.int .i64 0, .int .i64 0, .string (⟨#[]⟩ : ByteArray), .string (⟨#[]⟩ : ByteArray)]) ?_ 0 _ rfl; (with_reducible repeat (first | refine blk_drewN ?_ _ | refine blk_drew ?_ | refine blk_alloc ?_ _)); exact BK185.out) hb); have n2_ := Aside0.mk (below_step (by repeat (first | (with_reducible first | exact HB.out | apply below_alloc | apply pw_below_drewN | apply below_drew1 | refine below_set ?_ GE178.out | refine below_set ?_ GE185.out) | exact HB.out)) hb); clear BK178; clear BK185; clear HB; have BK178 := n0_; have BK185 := n1_; have HB := n2_; clear n0_ n1_ n2_; (try clear hb); (try clear hb2); (try clear hk); (try clear hi)))
          go_ret
          exact ⟨by first | rfl | (simp [errW_none, errW_some] <;> rfl) | (simp [*, errW_none, errW_some] <;> rfl) | (simp [bne]; done) | (simp [*, bne]; done), by repeat (first | (with_reducible first | exact HB.out | apply below_alloc | apply pw_below_drewN | apply below_drew1 | refine below_set ?_ GE178.out | refine below_set ?_ GE185.out) | exact HB.out)⟩
      · replace c62 := Bool.eq_false_iff.mpr c62
        subst c62
        have H1 : (some true) = some r := by rw [if_neg (show ¬ (false = true) by decide)] at H; exact H
        clear H
        have H := H1
        clear H1
        obtain rfl := Option.some.inj H
        go_enter Tryd.func6, Tryd.ntmps6
        go_wp2_with (first | ((with_reducible refine gate_dst (N := 3) rfl ?_); (try (refine gate_guard (by rfl) ?_; dsimp only)); refine box_event ?hg (N := 3) ?hd (cs := #[.int .i64 a1_0, .int .i64 a1_1, .string a1_2, .string a1_3]) (t := 26) ?hr ?_; (case hd => rfl); (case hg => rfl); (case hr => first | (go_simp; done) | (go_simp; rfl)); intro gb178 hg w82 hbox hb; have n0_ := Aside0.mk (below_step (by repeat (first | (with_reducible first | exact HB.out | apply below_alloc | apply pw_below_drewN | apply below_drew1) | exact HB.out)) hb); have n1_ := Aside0.mk (hbox); have n2_ := Aside0.mk ((by rw [hg]; exact (below_size (by repeat (first | (with_reducible first | exact HB.out | apply below_alloc | apply pw_below_drewN | apply below_drew1) | exact HB.out))) : w.heap.size ≤ gb178)); have n3_ := Aside0.mk ((by rw [hg]; exact (below_size (by repeat (first | (with_reducible first | exact HB.out | apply below_alloc | apply pw_below_drewN | apply below_drew1) | exact HB.out))) : w.heap.size ≤ gb178)); clear HB; have HB := n0_; have BK178 := n1_; have GW178 := n2_; have GE178 := n3_; clear n0_ n1_ n2_ n3_; clear hb hbox hg) | ((with_reducible refine look_callee (f := 9) rfl ?_); refine goesL_ (some 9) rfl rfl Tryd.func9 (by kernel_rfl) rfl #[] rfl (by (try simp only [List.map_toArray, List.map_cons, List.map_nil]); first | done | rfl | (simp only [List.length_drop, List.length_take]; rfl)) ?_; (with_reducible refine (cartouchelaw07_shown.calls  true _ A3.out).mono ?_); rintro e w83 ⟨rfl, hb⟩; refine ⟨_, rfl, ?_⟩; have n0_ := Aside0.mk (blk_below (g := gb178) (o := .cells #[.int .i64 a1_0, .int .i64 a1_1, .string a1_2, .string a1_3] 26 (0, 0)) (by (with_reducible repeat (first | refine blk_drewN ?_ _ | refine blk_drew ?_ | refine blk_alloc ?_ _)); exact BK178.out) hb); have n1_ := Aside0.mk (below_step (by repeat (first | (with_reducible first | exact HB.out | apply below_alloc | apply pw_below_drewN | apply below_drew1 | refine below_set ?_ GE178.out) | exact HB.out)) hb); clear BK178; clear HB; have BK178 := n0_; have HB := n1_; clear n0_ n1_; (try clear hb); (try clear hb2); (try clear hk); (try clear hi); have hcz84_0 : w83.cell? ⟨gb178, 0, none⟩ = some (.int .i64 a1_0) := (blk_cell BK178.out 0).trans rfl; have hcz84_1 : w83.cell? ⟨gb178, 1, none⟩ = some (.int .i64 a1_1) := (blk_cell BK178.out 1).trans rfl; have hcz84_2 : w83.cell? ⟨gb178, 2, none⟩ = some (.string a1_2) := (blk_cell BK178.out 2).trans rfl; have hcz84_3 : w83.cell? ⟨gb178, 3, none⟩ = some (.string a1_3) := (blk_cell BK178.out 3).trans rfl; have hfz84_0 := blk_frozen BK178.out 0; have hfz84_1 := blk_frozen BK178.out 1; have hfz84_2 := blk_frozen BK178.out 2; have hfz84_3 := blk_frozen BK178.out 3) | ((with_reducible refine look_callee (f := 17) rfl ?_); refine goesL_ (some 13) rfl rfl Tryd.func17 (by kernel_rfl) rfl #[.string a0, .agg #[.int .i64 a1_0, .int .i64 a1_1, .string a1_2, .string a1_3]] rfl (by (try simp only [List.map_toArray, List.map_cons, List.map_nil]); first | done | rfl | (simp only [List.length_drop, List.length_take]; rfl)) ?_; (with_reducible refine (redact_One.calls k a0 a1_0 a1_1 a1_2 a1_3 t180 t181 t182 t183 t184 _ ?side1 A4.out).mono ?_); (case side1 => exact hT.below (by repeat (first | (with_reducible first | exact HB.out | apply below_alloc | apply pw_below_drewN | apply below_drew1 | refine below_set ?_ GE178.out) | exact HB.out)) hT.size); rintro e w85 ⟨rfl, hb⟩; refine ⟨_, rfl, ?_⟩; have n0_ := Aside0.mk (blk_below (g := gb178) (o := .cells #[.int .i64 a1_0, .int .i64 a1_1, .string a1_2, .string a1_3] 26 (0, 0)) (by (with_reducible repeat (first | refine blk_drewN ?_ _ | refine blk_drew ?_ | refine blk_alloc ?_ _)); exact BK178.out) hb); have n1_ := Aside0.mk (below_step (by repeat (first | (with_reducible first | exact HB.out | apply below_alloc | apply pw_below_drewN | apply below_drew1 | refine below_set ?_ GE178.out) | exact HB.out)) hb); clear BK178; clear HB; have BK178 := n0_; have HB := n1_; clear n0_ n1_; (try clear hb); (try clear hb2); (try clear hk); (try clear hi)) | ((with_reducible refine gate_dst (N := 6) rfl ?_); (try (refine gate_guard (by rfl) ?_; dsimp only)); refine box_event ?hg (N := 6) ?hd (cs := #[.int .i64 0, .int .i64 0, .string (⟨#[]⟩ : ByteArray), .string (⟨#[]⟩ : ByteArray)]) (t := 26) ?hr ?_; (case hd => rfl); (case hg => rfl); (case hr => first | (go_simp; done) | (go_simp; rfl)); intro gb185 hg w86 hbox hb; have n0_ := Aside0.mk (blk_below (g := gb178) (o := .cells #[.int .i64 a1_0, .int .i64 a1_1, .string a1_2, .string a1_3] 26 (0, 0)) (by (with_reducible repeat (first | refine blk_drewN ?_ _ | refine blk_drew ?_ | refine blk_alloc ?_ _)); exact BK178.out) hb); have n1_ := Aside0.mk (below_step (by repeat (first | (with_reducible first | exact HB.out | apply below_alloc | apply pw_below_drewN | apply below_drew1 | refine below_set ?_ GE178.out) | exact HB.out)) hb); have n2_ := Aside0.mk (hbox); have n3_ := Aside0.mk ((by rw [hg]; exact (below_size (by repeat (first | (with_reducible first | exact HB.out | apply below_alloc | apply pw_below_drewN | apply below_drew1 | refine below_set ?_ GE178.out) | exact HB.out))) : w.heap.size ≤ gb185)); have n4_ := Aside0.mk ((by rw [hg]; exact (below_size (by repeat (first | (with_reducible first | exact HB.out | apply below_alloc | apply pw_below_drewN | apply below_drew1 | refine below_set ?_ GE178.out) | exact HB.out))) : w.heap.size ≤ gb185)); have n5_ := Aside0.mk ((by rw [hg]; exact Nat.ne_of_lt (blk_lt (g := gb178) (o := .cells #[.int .i64 a1_0, .int .i64 a1_1, .string a1_2, .string a1_3] 26 (0, 0)) (by (with_reducible repeat (first | refine blk_drewN ?_ _ | refine blk_drew ?_ | refine blk_alloc ?_ _)); exact BK178.out)) : gb178 ≠ gb185)); have n6_ := Aside0.mk ((by rw [hg]; exact Nat.ne_of_gt (blk_lt (g := gb178) (o := .cells #[.int .i64 a1_0, .int .i64 a1_1, .string a1_2, .string a1_3] 26 (0, 0)) (by (with_reducible repeat (first | refine blk_drewN ?_ _ | refine blk_drew ?_ | refine blk_alloc ?_ _)); exact BK178.out)) : gb185 ≠ gb178)); clear BK178; clear HB; have BK178 := n0_; have HB := n1_; have BK185 := n2_; have GW185 := n3_; have GE185 := n4_; have NB178_185 := n5_; have NB185_178 := n6_; clear n0_ n1_ n2_ n3_ n4_ n5_ n6_; clear hb hbox hg; have hnb87 := NB185_178.out; have hnc87 := NB178_185.out; have hcz88_0 : w86.cell? ⟨gb185, 0, none⟩ = some (.int .i64 0) := (blk_cell BK185.out 0).trans rfl; have hcz88_1 : w86.cell? ⟨gb185, 1, none⟩ = some (.int .i64 0) := (blk_cell BK185.out 1).trans rfl; have hcz88_2 : w86.cell? ⟨gb185, 2, none⟩ = some (.string (⟨#[]⟩ : ByteArray)) := (blk_cell BK185.out 2).trans rfl; have hcz88_3 : w86.cell? ⟨gb185, 3, none⟩ = some (.string (⟨#[]⟩ : ByteArray)) := (blk_cell BK185.out 3).trans rfl; have hfz88_0 := blk_frozen BK185.out 0; have hfz88_1 := blk_frozen BK185.out 1; have hfz88_2 := blk_frozen BK185.out 2; have hfz88_3 := blk_frozen BK185.out 3; have hcz89_0 : w86.cell? ⟨gb178, 0, none⟩ = some (.int .i64 a1_0) := (blk_cell BK178.out 0).trans rfl; have hcz89_1 : w86.cell? ⟨gb178, 1, none⟩ = some (.int .i64 a1_1) := (blk_cell BK178.out 1).trans rfl; have hcz89_2 : w86.cell? ⟨gb178, 2, none⟩ = some (.string a1_2) := (blk_cell BK178.out 2).trans rfl; have hcz89_3 : w86.cell? ⟨gb178, 3, none⟩ = some (.string a1_3) := (blk_cell BK178.out 3).trans rfl; have hfz89_0 := blk_frozen BK178.out 0; have hfz89_1 := blk_frozen BK178.out 1; have hfz89_2 := blk_frozen BK178.out 2; have hfz89_3 := blk_frozen BK178.out 3) | ((with_reducible refine look_callee (f := 19) rfl ?_); refine goesL_ (some 17) rfl rfl Tryd.func19 (by kernel_rfl) rfl #[.agg #[.int .i64 a1_0, .int .i64 a1_1, .string a1_2, .string a1_3]] rfl (by (try simp only [List.map_toArray, List.map_cons, List.map_nil]); first | done | rfl | (simp only [List.length_drop, List.length_take]; rfl)) ?_; (with_reducible refine (cartoucheref06_May.calls k a1_0 a1_1 a1_2 a1_3 false _ A5.out).mono ?_); rintro e w90 ⟨rfl, hb⟩; refine ⟨_, rfl, ?_⟩; have n0_ := Aside0.mk (blk_below (g := gb178) (o := .cells #[.int .i64 a1_0, .int .i64 a1_1, .string a1_2, .string a1_3] 26 (0, 0)) (by (with_reducible repeat (first | refine blk_drewN ?_ _ | refine blk_drew ?_ | refine blk_alloc ?_ _)); refine blk_far ?_ NB178_185.out _; (with_reducible repeat (first | refine blk_drewN ?_ _ | refine blk_drew ?_ | refine blk_alloc ?_ _)); refine blk_far ?_ NB178_185.out _; (with_reducible repeat (first | refine blk_drewN ?_ _ | refine blk_drew ?_ | refine blk_alloc ?_ _)); refine blk_far ?_ NB178_185.out _; (with_reducible repeat (first | refine blk_drewN ?_ _ | refine blk_drew ?_ | refine blk_alloc ?_ _)); refine blk_far ?_ NB178_185.out _; (with_reducible repeat (first | refine blk_drewN ?_ _ | refine blk_drew ?_ | refine blk_alloc ?_ _)); exact BK178.out) hb); have n1_ := Aside0.mk (blk_below (g := gb185) (o := .cells #[.int .i64 t180, .int .i64 t181, .string t182, .string t183] 26 (0, 0)) (by (with_reducible repeat (first | refine blk_drewN ?_ _ | refine blk_drew ?_ | refine blk_alloc ?_ _)); refine blk_put (cs := #[.int .i64 t180, .int .i64 t181, .string t182, .string (⟨#[]⟩ : ByteArray)]) ?_ 3 _ rfl; (with_reducible repeat (first | refine blk_drewN ?_ _ | refine blk_drew ?_ | refine blk_alloc ?_ _)); refine blk_put (cs := #[.int .i64 t180, .int .i64 t181, .string (⟨#[]⟩ : ByteArray), .string (⟨#[]⟩ : ByteArray)]) ?_ 2 _ rfl; (with_reducible repeat (first | refine blk_drewN ?_ _ | refine blk_drew ?_ | refine blk_alloc ?_ _)); refine blk_put (cs := #[.int .i64 t180, .int .i64 0, .string (⟨#[]⟩ : ByteArray), .string (⟨#[]⟩ : ByteArray)]) ?_ 1 _ rfl; (with_reducible repeat (first | refine blk_drewN ?_ _ | refine blk_drew ?_ | refine blk_alloc ?_ _)); refine blk_put (cs := #[.int .i64 0, .int .i64 0, .string (⟨#[]⟩ : ByteArray), .string (⟨#[]⟩ : ByteArray)]) ?_ 0 _ rfl; (with_reducible repeat (first | refine blk_drewN ?_ _ | refine blk_drew ?_ | refine blk_alloc ?_ _)); exact BK185.out) hb); have n2_ := Aside0.mk (below_step (by repeat (first | (with_reducible first | exact HB.out | apply below_alloc | apply pw_below_drewN | apply below_drew1 | refine below_set ?_ GE178.out | refine below_set ?_ GE185.out) | exact HB.out)) hb); clear BK178; clear BK185; clear HB; have BK178 := n0_; have BK185 := n1_; have HB := n2_; clear n0_ n1_ n2_; (try clear hb); (try clear hb2); (try clear hk); (try clear hi)))
        go_ret
        exact ⟨by first | rfl | (simp [errW_none, errW_some] <;> rfl) | (simp [*, errW_none, errW_some] <;> rfl) | (simp [bne]; done) | (simp [*, bne]; done), by repeat (first | (with_reducible first | exact HB.out | apply below_alloc | apply pw_below_drewN | apply below_drew1 | refine below_set ?_ GE178.out | refine below_set ?_ GE185.out) | exact HB.out)⟩
    · replace c61 := Bool.eq_false_iff.mpr c61
      subst c61
      have H1 : (some false) = some r := by rw [if_neg (show ¬ (false = true) by decide)] at H; exact H
      clear H
      have H := H1
      clear H1
      obtain rfl := Option.some.inj H
      go_enter Tryd.func6, Tryd.ntmps6
      go_wp2_with (first | ((with_reducible refine gate_dst (N := 3) rfl ?_); (try (refine gate_guard (by rfl) ?_; dsimp only)); refine box_event ?hg (N := 3) ?hd (cs := #[.int .i64 a1_0, .int .i64 a1_1, .string a1_2, .string a1_3]) (t := 26) ?hr ?_; (case hd => rfl); (case hg => rfl); (case hr => first | (go_simp; done) | (go_simp; rfl)); intro gb178 hg w91 hbox hb; have n0_ := Aside0.mk (below_step (by repeat (first | (with_reducible first | exact HB.out | apply below_alloc | apply pw_below_drewN | apply below_drew1) | exact HB.out)) hb); have n1_ := Aside0.mk (hbox); have n2_ := Aside0.mk ((by rw [hg]; exact (below_size (by repeat (first | (with_reducible first | exact HB.out | apply below_alloc | apply pw_below_drewN | apply below_drew1) | exact HB.out))) : w.heap.size ≤ gb178)); have n3_ := Aside0.mk ((by rw [hg]; exact (below_size (by repeat (first | (with_reducible first | exact HB.out | apply below_alloc | apply pw_below_drewN | apply below_drew1) | exact HB.out))) : w.heap.size ≤ gb178)); clear HB; have HB := n0_; have BK178 := n1_; have GW178 := n2_; have GE178 := n3_; clear n0_ n1_ n2_ n3_; clear hb hbox hg) | ((with_reducible refine look_callee (f := 9) rfl ?_); refine goesL_ (some 9) rfl rfl Tryd.func9 (by kernel_rfl) rfl #[] rfl (by (try simp only [List.map_toArray, List.map_cons, List.map_nil]); first | done | rfl | (simp only [List.length_drop, List.length_take]; rfl)) ?_; (with_reducible refine (cartouchelaw07_shown.calls  false _ A3.out).mono ?_); rintro e w92 ⟨rfl, hb⟩; refine ⟨_, rfl, ?_⟩; have n0_ := Aside0.mk (blk_below (g := gb178) (o := .cells #[.int .i64 a1_0, .int .i64 a1_1, .string a1_2, .string a1_3] 26 (0, 0)) (by (with_reducible repeat (first | refine blk_drewN ?_ _ | refine blk_drew ?_ | refine blk_alloc ?_ _)); exact BK178.out) hb); have n1_ := Aside0.mk (below_step (by repeat (first | (with_reducible first | exact HB.out | apply below_alloc | apply pw_below_drewN | apply below_drew1 | refine below_set ?_ GE178.out) | exact HB.out)) hb); clear BK178; clear HB; have BK178 := n0_; have HB := n1_; clear n0_ n1_; (try clear hb); (try clear hb2); (try clear hk); (try clear hi); have hcz93_0 : w92.cell? ⟨gb178, 0, none⟩ = some (.int .i64 a1_0) := (blk_cell BK178.out 0).trans rfl; have hcz93_1 : w92.cell? ⟨gb178, 1, none⟩ = some (.int .i64 a1_1) := (blk_cell BK178.out 1).trans rfl; have hcz93_2 : w92.cell? ⟨gb178, 2, none⟩ = some (.string a1_2) := (blk_cell BK178.out 2).trans rfl; have hcz93_3 : w92.cell? ⟨gb178, 3, none⟩ = some (.string a1_3) := (blk_cell BK178.out 3).trans rfl; have hfz93_0 := blk_frozen BK178.out 0; have hfz93_1 := blk_frozen BK178.out 1; have hfz93_2 := blk_frozen BK178.out 2; have hfz93_3 := blk_frozen BK178.out 3) | ((with_reducible refine look_callee (f := 17) rfl ?_); refine goesL_ (some 13) rfl rfl Tryd.func17 (by kernel_rfl) rfl #[.string a0, .agg #[.int .i64 a1_0, .int .i64 a1_1, .string a1_2, .string a1_3]] rfl (by (try simp only [List.map_toArray, List.map_cons, List.map_nil]); first | done | rfl | (simp only [List.length_drop, List.length_take]; rfl)) ?_; (with_reducible refine (redact_One.calls k a0 a1_0 a1_1 a1_2 a1_3 t180 t181 t182 t183 t184 _ ?side1 A4.out).mono ?_); (case side1 => exact hT.below (by repeat (first | (with_reducible first | exact HB.out | apply below_alloc | apply pw_below_drewN | apply below_drew1 | refine below_set ?_ GE178.out) | exact HB.out)) hT.size); rintro e w94 ⟨rfl, hb⟩; refine ⟨_, rfl, ?_⟩; have n0_ := Aside0.mk (blk_below (g := gb178) (o := .cells #[.int .i64 a1_0, .int .i64 a1_1, .string a1_2, .string a1_3] 26 (0, 0)) (by (with_reducible repeat (first | refine blk_drewN ?_ _ | refine blk_drew ?_ | refine blk_alloc ?_ _)); exact BK178.out) hb); have n1_ := Aside0.mk (below_step (by repeat (first | (with_reducible first | exact HB.out | apply below_alloc | apply pw_below_drewN | apply below_drew1 | refine below_set ?_ GE178.out) | exact HB.out)) hb); clear BK178; clear HB; have BK178 := n0_; have HB := n1_; clear n0_ n1_; (try clear hb); (try clear hb2); (try clear hk); (try clear hi)) | ((with_reducible refine gate_dst (N := 6) rfl ?_); (try (refine gate_guard (by rfl) ?_; dsimp only)); refine box_event ?hg (N := 6) ?hd (cs := #[.int .i64 0, .int .i64 0, .string (⟨#[]⟩ : ByteArray), .string (⟨#[]⟩ : ByteArray)]) (t := 26) ?hr ?_; (case hd => rfl); (case hg => rfl); (case hr => first | (go_simp; done) | (go_simp; rfl)); intro gb185 hg w95 hbox hb; have n0_ := Aside0.mk (blk_below (g := gb178) (o := .cells #[.int .i64 a1_0, .int .i64 a1_1, .string a1_2, .string a1_3] 26 (0, 0)) (by (with_reducible repeat (first | refine blk_drewN ?_ _ | refine blk_drew ?_ | refine blk_alloc ?_ _)); exact BK178.out) hb); have n1_ := Aside0.mk (below_step (by repeat (first | (with_reducible first | exact HB.out | apply below_alloc | apply pw_below_drewN | apply below_drew1 | refine below_set ?_ GE178.out) | exact HB.out)) hb); have n2_ := Aside0.mk (hbox); have n3_ := Aside0.mk ((by rw [hg]; exact (below_size (by repeat (first | (with_reducible first | exact HB.out | apply below_alloc | apply pw_below_drewN | apply below_drew1 | refine below_set ?_ GE178.out) | exact HB.out))) : w.heap.size ≤ gb185)); have n4_ := Aside0.mk ((by rw [hg]; exact (below_size (by repeat (first | (with_reducible first | exact HB.out | apply below_alloc | apply pw_below_drewN | apply below_drew1 | refine below_set ?_ GE178.out) | exact HB.out))) : w.heap.size ≤ gb185)); have n5_ := Aside0.mk ((by rw [hg]; exact Nat.ne_of_lt (blk_lt (g := gb178) (o := .cells #[.int .i64 a1_0, .int .i64 a1_1, .string a1_2, .string a1_3] 26 (0, 0)) (by (with_reducible repeat (first | refine blk_drewN ?_ _ | refine blk_drew ?_ | refine blk_alloc ?_ _)); exact BK178.out)) : gb178 ≠ gb185)); have n6_ := Aside0.mk ((by rw [hg]; exact Nat.ne_of_gt (blk_lt (g := gb178) (o := .cells #[.int .i64 a1_0, .int .i64 a1_1, .string a1_2, .string a1_3] 26 (0, 0)) (by (with_reducible repeat (first | refine blk_drewN ?_ _ | refine blk_drew ?_ | refine blk_alloc ?_ _)); exact BK178.out)) : gb185 ≠ gb178)); clear BK178; clear HB; have BK178 := n0_; have HB := n1_; have BK185 := n2_; have GW185 := n3_; have GE185 := n4_; have NB178_185 := n5_; have NB185_178 := n6_; clear n0_ n1_ n2_ n3_ n4_ n5_ n6_; clear hb hbox hg; have hnb96 := NB185_178.out; have hnc96 := NB178_185.out; have hcz97_0 : w95.cell? ⟨gb185, 0, none⟩ = some (.int .i64 0) := (blk_cell BK185.out 0).trans rfl; have hcz97_1 : w95.cell? ⟨gb185, 1, none⟩ = some (.int .i64 0) := (blk_cell BK185.out 1).trans rfl; have hcz97_2 : w95.cell? ⟨gb185, 2, none⟩ = some (.string (⟨#[]⟩ : ByteArray)) := (blk_cell BK185.out 2).trans rfl; have hcz97_3 : w95.cell? ⟨gb185, 3, none⟩ = some (.string (⟨#[]⟩ : ByteArray)) := (blk_cell BK185.out 3).trans rfl; have hfz97_0 := blk_frozen BK185.out 0; have hfz97_1 := blk_frozen BK185.out 1; have hfz97_2 := blk_frozen BK185.out 2; have hfz97_3 := blk_frozen BK185.out 3; have hcz98_0 : w95.cell? ⟨gb178, 0, none⟩ = some (.int .i64 a1_0) := (blk_cell BK178.out 0).trans rfl; have hcz98_1 : w95.cell? ⟨gb178, 1, none⟩ = some (.int .i64 a1_1) := (blk_cell BK178.out 1).trans rfl; have hcz98_2 : w95.cell? ⟨gb178, 2, none⟩ = some (.string a1_2) := (blk_cell BK178.out 2).trans rfl; have hcz98_3 : w95.cell? ⟨gb178, 3, none⟩ = some (.string a1_3) := (blk_cell BK178.out 3).trans rfl; have hfz98_0 := blk_frozen BK178.out 0; have hfz98_1 := blk_frozen BK178.out 1; have hfz98_2 := blk_frozen BK178.out 2; have hfz98_3 := blk_frozen BK178.out 3) | ((with_reducible refine look_callee (f := 19) rfl ?_); refine goesL_ (some 17) rfl rfl Tryd.func19 (by kernel_rfl) rfl #[.agg #[.int .i64 a1_0, .int .i64 a1_1, .string a1_2, .string a1_3]] rfl (by (try simp only [List.map_toArray, List.map_cons, List.map_nil]); first | done | rfl | (simp only [List.length_drop, List.length_take]; rfl)) ?_; (with_reducible refine (cartoucheref06_May.calls k a1_0 a1_1 a1_2 a1_3 t186 _ A5.out).mono ?_); rintro e w99 ⟨rfl, hb⟩; refine ⟨_, rfl, ?_⟩; have n0_ := Aside0.mk (blk_below (g := gb178) (o := .cells #[.int .i64 a1_0, .int .i64 a1_1, .string a1_2, .string a1_3] 26 (0, 0)) (by (with_reducible repeat (first | refine blk_drewN ?_ _ | refine blk_drew ?_ | refine blk_alloc ?_ _)); refine blk_far ?_ NB178_185.out _; (with_reducible repeat (first | refine blk_drewN ?_ _ | refine blk_drew ?_ | refine blk_alloc ?_ _)); refine blk_far ?_ NB178_185.out _; (with_reducible repeat (first | refine blk_drewN ?_ _ | refine blk_drew ?_ | refine blk_alloc ?_ _)); refine blk_far ?_ NB178_185.out _; (with_reducible repeat (first | refine blk_drewN ?_ _ | refine blk_drew ?_ | refine blk_alloc ?_ _)); refine blk_far ?_ NB178_185.out _; (with_reducible repeat (first | refine blk_drewN ?_ _ | refine blk_drew ?_ | refine blk_alloc ?_ _)); exact BK178.out) hb); have n1_ := Aside0.mk (blk_below (g := gb185) (o := .cells #[.int .i64 t180, .int .i64 t181, .string t182, .string t183] 26 (0, 0)) (by (with_reducible repeat (first | refine blk_drewN ?_ _ | refine blk_drew ?_ | refine blk_alloc ?_ _)); refine blk_put (cs := #[.int .i64 t180, .int .i64 t181, .string t182, .string (⟨#[]⟩ : ByteArray)]) ?_ 3 _ rfl; (with_reducible repeat (first | refine blk_drewN ?_ _ | refine blk_drew ?_ | refine blk_alloc ?_ _)); refine blk_put (cs := #[.int .i64 t180, .int .i64 t181, .string (⟨#[]⟩ : ByteArray), .string (⟨#[]⟩ : ByteArray)]) ?_ 2 _ rfl; (with_reducible repeat (first | refine blk_drewN ?_ _ | refine blk_drew ?_ | refine blk_alloc ?_ _)); refine blk_put (cs := #[.int .i64 t180, .int .i64 0, .string (⟨#[]⟩ : ByteArray), .string (⟨#[]⟩ : ByteArray)]) ?_ 1 _ rfl; (with_reducible repeat (first | refine blk_drewN ?_ _ | refine blk_drew ?_ | refine blk_alloc ?_ _)); refine blk_put (cs := #[.int .i64 0, .int .i64 0, .string (⟨#[]⟩ : ByteArray), .string (⟨#[]⟩ : ByteArray)]) ?_ 0 _ rfl; (with_reducible repeat (first | refine blk_drewN ?_ _ | refine blk_drew ?_ | refine blk_alloc ?_ _)); exact BK185.out) hb); have n2_ := Aside0.mk (below_step (by repeat (first | (with_reducible first | exact HB.out | apply below_alloc | apply pw_below_drewN | apply below_drew1 | refine below_set ?_ GE178.out | refine below_set ?_ GE185.out) | exact HB.out)) hb); clear BK178; clear BK185; clear HB; have BK178 := n0_; have BK185 := n1_; have HB := n2_; clear n0_ n1_ n2_; (try clear hb); (try clear hb2); (try clear hk); (try clear hi)))
      go_ret
      exact ⟨by first | rfl | (simp [errW_none, errW_some] <;> rfl) | (simp [*, errW_none, errW_some] <;> rfl) | (simp [bne]; done) | (simp [*, bne]; done), by repeat (first | (with_reducible first | exact HB.out | apply below_alloc | apply pw_below_drewN | apply below_drew1 | refine below_set ?_ GE178.out | refine below_set ?_ GE185.out) | exact HB.out)⟩

end Go.Proofs.YtbckobokiioeaaaDoor.R
