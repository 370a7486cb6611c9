import Derived.Test.YtjlpjpjodhkpdaaGreatDoorQA
import Derived.Test.YtjlpjpjodhkpdaaGreatDoorRefB
set_option maxHeartbeats 8000000
set_option maxRecDepth 100000
namespace Go.Proofs.YtjlpjpjodhkpdaaGreatDoor.Q
open Go.RowKit Go.Proofs.YtjlpjpjodhkpdaaGreatDoorW.PrintWords Go.Proofs.YtjlpjpjodhkpdaaGreatDoorW.PrintLast
set_option linter.unusedVariables false
set_option linter.unusedSimpArgs false
attribute [local go_sem high] eqA53
/-! ### cartoucheref07_KeyTag: function 126 -/
def cartoucheref07_KeyTag.f (a0 : ByteArray) (a1 : ByteArray) : Option (ByteArray × Int) := if 1 + a1.size ≤ 9223372036854775807 then ((cartoucheref02_Keyed.f a0 ((⟨#[5]⟩ : ByteArray) ++ a1)).bind fun bt519 => (some (bt519.1, bt519.2))) else (none)
theorem cartoucheref07_KeyTag.calls (a0 : ByteArray) (a1 : ByteArray) (r1 : ByteArray) (r2 : Int) (w : World) (h : cartoucheref07_KeyTag.f a0 a1 = some (r1, r2)) :
 Calls Tryz.prog 126 #[.string a0, .string a1] w fun e w' => e = .returned (.tuple #[.string r1, .int .i64 r2]) ∧ Below w.heap.size w w' := by
 have HB := Aside0.mk (Below.refl w.heap.size w)
 have H : (if 1 + a1.size ≤ 9223372036854775807 then ((cartoucheref02_Keyed.f a0 ((⟨#[5]⟩ : ByteArray) ++ a1)).bind fun bt519 => (some (bt519.1, bt519.2))) else (none)) = some (r1, r2) := h
 clear h
 by_cases c3 : 1 + a1.size ≤ 9223372036854775807
 · rw [if_pos c3] at H
   have c3b0 := eq_true c3
   have c3b1 : decide (1 + a1.size ≤ 9223372036854775807) = true := decide_eq_true c3
   try have c3b2 : (9223372036854775807 < 1 + a1.size) = False := eq_false (Nat.not_lt.2 c3)
   replace H := Option.bind_eq_some_iff.mp H
   obtain ⟨⟨t519, t520⟩, A40, H⟩ := H
   try dsimp only [-dreduceIte] at H
   have A4 := Aside0.mk A40
   clear A40
   simp only [Option.some.injEq, Prod.mk.injEq] at H
   obtain ⟨rfl, rfl⟩ := H
   go_enter Tryz.func126, Tryz.ntmps126
   go_wp2_with (first | ((with_reducible refine look_callee (f := 139) rfl ?_); refine goesL_ (some 9) rfl rfl Tryz.func139 (by kernel_rfl) rfl #[.string a0, .string ((⟨#[5]⟩ : ByteArray) ++ a1)] rfl (by (try simp only [List.map_toArray, List.map_cons, List.map_nil]); first | done | rfl | (simp only [List.length_drop, List.length_take]; rfl)) ?_; (with_reducible refine (cartoucheref02_Keyed.calls a0 ((⟨#[5]⟩ : ByteArray) ++ a1) t519 t520 _ A4.out).mono ?_); rintro e w5 ⟨rfl, hb⟩; refine ⟨_, rfl, ?_⟩; have n0_ := Aside0.mk (below_step (by repeat (first | (with_reducible first | exact HB.out | apply below_alloc | apply pw_below_drewN | apply below_drew1) | exact HB.out)) hb); clear HB; have HB := n0_; clear n0_; (try clear hb); (try clear hb2); (try clear hk); (try clear hi)))
   go_ret2
   exact ⟨by first | rfl | (simp [errW_none, errW_some] <;> rfl) | (simp [*, errW_none, errW_some] <;> rfl) | (simp [bne]; done) | (simp [*, bne]; done), by repeat (first | (with_reducible first | exact HB.out | apply below_alloc | apply pw_below_drewN | apply below_drew1) | exact HB.out)⟩
 · rw [if_neg c3] at H
   exact absurd H (by simp)
def cartoucheref07_ValTag.f (a0 : ByteArray) (a1 : ByteArray) : Option (ByteArray × Int) := if 1 + a1.size ≤ 9223372036854775807 then ((cartoucheref02_Keyed.f a0 ((⟨#[6]⟩ : ByteArray) ++ a1)).bind fun bt521 => (if bt521.2 = 0 then (if a1.toList = ([] : List UInt8) then (some ((⟨#[]⟩ : ByteArray), bt521.2)) else (some (bt521.1, 0))) else (some ((⟨#[]⟩ : ByteArray), bt521.2)))) else (none)
theorem cartoucheref07_ValTag.calls (a0 : ByteArray) (a1 : ByteArray) (r1 : ByteArray) (r2 : Int) (w : World) (h : cartoucheref07_ValTag.f a0 a1 = some (r1, r2)) :
 Calls Tryz.prog 127 #[.string a0, .string a1] w fun e w' => e = .returned (.tuple #[.string r1, .int .i64 r2]) ∧ Below w.heap.size w w' := by
 have HB := Aside0.mk (Below.refl w.heap.size w)
 have H : (if 1 + a1.size ≤ 9223372036854775807 then ((cartoucheref02_Keyed.f a0 ((⟨#[6]⟩ : ByteArray) ++ a1)).bind fun bt521 => (if bt521.2 = 0 then (if a1.toList = ([] : List UInt8) then (some ((⟨#[]⟩ : ByteArray), bt521.2)) else (some (bt521.1, 0))) else (some ((⟨#[]⟩ : ByteArray), bt521.2)))) else (none)) = some (r1, r2) := h
 clear h
 by_cases c3 : 1 + a1.size ≤ 9223372036854775807
 · rw [if_pos c3] at H
   have c3b0 := eq_true c3
   have c3b1 : decide (1 + a1.size ≤ 9223372036854775807) = true := decide_eq_true c3
   try have c3b2 : (9223372036854775807 < 1 + a1.size) = False := eq_false (Nat.not_lt.2 c3)
   replace H := Option.bind_eq_some_iff.mp H
   obtain ⟨⟨t521, t522⟩, A40, H⟩ := H
   try dsimp only [-dreduceIte] at H
   have A4 := Aside0.mk A40
   clear A40
   by_cases c5 : t522 = 0
   · rw [if_pos c5] at H
     have c5b0 : (t522 == 0) = true := beq_iff_eq.mpr c5
     have c5b1 : (t522 != 0) = false := bne_eq_false_iff_eq.mpr c5
     clear c5
     by_cases c6 : a1.toList = ([] : List UInt8)
     · rw [if_pos c6] at H
       have c6b0 : (a1.toList == ([] : List UInt8)) = true := beq_iff_eq.mpr c6
       have c6b1 : (a1.toList != ([] : List UInt8)) = false := bne_eq_false_iff_eq.mpr c6
       clear c6
       simp only [Option.some.injEq, Prod.mk.injEq] at H
       obtain ⟨rfl, rfl⟩ := H
       go_enter Tryz.func127, Tryz.ntmps127
       go_wp2_with (first | ((with_reducible refine look_callee (f := 139) rfl ?_); refine goesL_ (some 12) rfl rfl Tryz.func139 (by kernel_rfl) rfl #[.string a0, .string ((⟨#[6]⟩ : ByteArray) ++ a1)] rfl (by (try simp only [List.map_toArray, List.map_cons, List.map_nil]); first | done | rfl | (simp only [List.length_drop, List.length_take]; rfl)) ?_; (with_reducible refine (cartoucheref02_Keyed.calls a0 ((⟨#[6]⟩ : ByteArray) ++ a1) t521 t522 _ A4.out).mono ?_); rintro e w7 ⟨rfl, hb⟩; refine ⟨_, rfl, ?_⟩; have n0_ := Aside0.mk (below_step (by repeat (first | (with_reducible first | exact HB.out | apply below_alloc | apply pw_below_drewN | apply below_drew1) | exact HB.out)) hb); clear HB; have HB := n0_; clear n0_; (try clear hb); (try clear hb2); (try clear hk); (try clear hi)))
       go_ret2
       exact ⟨by first | rfl | (simp [errW_none, errW_some] <;> rfl) | (simp [*, errW_none, errW_some] <;> rfl) | (simp [bne]; done) | (simp [*, bne]; done), by repeat (first | (with_reducible first | exact HB.out | apply below_alloc | apply pw_below_drewN | apply below_drew1) | exact HB.out)⟩
     · rw [if_neg c6] at H
       have c6b0 : (a1.toList == ([] : List UInt8)) = false := beq_eq_false_iff_ne.mpr c6
       have c6b1 : (a1.toList != ([] : List UInt8)) = true := bne_iff_ne.mpr c6
       simp only [Option.some.injEq, Prod.mk.injEq] at H
       obtain ⟨rfl, rfl⟩ := H
       go_enter Tryz.func127, Tryz.ntmps127
       go_wp2_with (first | ((with_reducible refine look_callee (f := 139) rfl ?_); refine goesL_ (some 12) rfl rfl Tryz.func139 (by kernel_rfl) rfl #[.string a0, .string ((⟨#[6]⟩ : ByteArray) ++ a1)] rfl (by (try simp only [List.map_toArray, List.map_cons, List.map_nil]); first | done | rfl | (simp only [List.length_drop, List.length_take]; rfl)) ?_; (with_reducible refine (cartoucheref02_Keyed.calls a0 ((⟨#[6]⟩ : ByteArray) ++ a1) t521 t522 _ A4.out).mono ?_); rintro e w8 ⟨rfl, hb⟩; refine ⟨_, rfl, ?_⟩; have n0_ := Aside0.mk (below_step (by repeat (first | (with_reducible first | exact HB.out | apply below_alloc | apply pw_below_drewN | apply below_drew1) | exact HB.out)) hb); clear HB; have HB := n0_; clear n0_; (try clear hb); (try clear hb2); (try clear hk); (try clear hi)))
       go_ret2
       exact ⟨by first | rfl | (simp [errW_none, errW_some] <;> rfl) | (simp [*, errW_none, errW_some] <;> rfl) | (simp [bne]; done) | (simp [*, bne]; done), by repeat (first | (with_reducible first | exact HB.out | apply below_alloc | apply pw_below_drewN | apply below_drew1) | exact HB.out)⟩
   · rw [if_neg c5] at H
     have c5b0 : (t522 == 0) = false := beq_eq_false_iff_ne.mpr c5
     have c5b1 : (t522 != 0) = true := bne_iff_ne.mpr c5
     simp only [Option.some.injEq, Prod.mk.injEq] at H
     obtain ⟨rfl, rfl⟩ := H
     go_enter Tryz.func127, Tryz.ntmps127
     go_wp2_with (first | ((with_reducible refine look_callee (f := 139) rfl ?_); refine goesL_ (some 12) rfl rfl Tryz.func139 (by kernel_rfl) rfl #[.string a0, .string ((⟨#[6]⟩ : ByteArray) ++ a1)] rfl (by (try simp only [List.map_toArray, List.map_cons, List.map_nil]); first | done | rfl | (simp only [List.length_drop, List.length_take]; rfl)) ?_; (with_reducible refine (cartoucheref02_Keyed.calls a0 ((⟨#[6]⟩ : ByteArray) ++ a1) t521 t522 _ A4.out).mono ?_); rintro e w9 ⟨rfl, hb⟩; refine ⟨_, rfl, ?_⟩; have n0_ := Aside0.mk (below_step (by repeat (first | (with_reducible first | exact HB.out | apply below_alloc | apply pw_below_drewN | apply below_drew1) | exact HB.out)) hb); clear HB; have HB := n0_; clear n0_; (try clear hb); (try clear hb2); (try clear hk); (try clear hi)))
     go_ret2
     exact ⟨by first | rfl | (simp [errW_none, errW_some] <;> rfl) | (simp [*, errW_none, errW_some] <;> rfl) | (simp [bne]; done) | (simp [*, bne]; done), by repeat (first | (with_reducible first | exact HB.out | apply below_alloc | apply pw_below_drewN | apply below_drew1) | exact HB.out)⟩
 · rw [if_neg c3] at H
   exact absurd H (by simp)
mutual
def cartoucheref07_One.j0 : Nat → ByteArray → Bool → Int → Int → ByteArray → ByteArray → Option (Int × Int × ByteArray × ByteArray × Int)
 | 0, _, _, _, _, _, _ => none
 | k + 1, x0, x20, x524000, x524001, x524002, x524003 => if x20 = true then (some (0, 0, (⟨#[]⟩ : ByteArray), (⟨#[]⟩ : ByteArray), 1)) else (if x524000 = 2 then (cartoucheref07_One.j1 k x0 true x524000 x524001 x524002 x524003) else (cartoucheref07_One.j1 k x0 (x524000 == 3) x524000 x524001 x524002 x524003))
def cartoucheref07_One.j1 : Nat → ByteArray → Bool → Int → Int → ByteArray → ByteArray → Option (Int × Int × ByteArray × ByteArray × Int)
 | 0, _, _, _, _, _, _ => none
 | k + 1, x0, x29, x524000, x524001, x524002, x524003 => if x29 = true then ((cartoucheref07_KeyTag.f x0 x524002).bind fun bt526 => ((cartoucheref07_ValTag.f x0 x524003).bind fun bt528 => (some (x524000, x524001, bt526.1, bt528.1, 0)))) else (some (x524000, x524001, x524002, x524003, 0))
end
def cartoucheref07_One.f (k : Nat) (a0 : ByteArray) (a1_0 : Int) (a1_1 : Int) (a1_2 : ByteArray) (a1_3 : ByteArray) : Option (Int × Int × ByteArray × ByteArray × Int) := (cartoucheref06_May.f k a1_0 a1_1 a1_2 a1_3).bind fun t525 => (if t525 = true then (if (a0.size : Int) < 1 then (cartoucheref07_One.j0 k a0 true a1_0 a1_1 a1_2 a1_3) else (cartoucheref07_One.j0 k a0 (decide ((a0.size : Int) > 32)) a1_0 a1_1 a1_2 a1_3)) else (cartoucheref07_One.j0 k a0 true a1_0 a1_1 a1_2 a1_3))
theorem cartoucheref07_One.mono_l : ∀ k, (∀ y0 y1 y2 y3 y4 y5, LeO (cartoucheref07_One.j0 k y0 y1 y2 y3 y4 y5) (cartoucheref07_One.j0 (k + 1) y0 y1 y2 y3 y4 y5)) ∧ (∀ y0 y1 y2 y3 y4 y5, LeO (cartoucheref07_One.j1 k y0 y1 y2 y3 y4 y5) (cartoucheref07_One.j1 (k + 1) y0 y1 y2 y3 y4 y5))
 | 0 => ⟨fun _ _ _ _ _ _ r h => by simp [cartoucheref07_One.j0] at h, fun _ _ _ _ _ _ r h => by simp [cartoucheref07_One.j1] at h⟩
 | k + 1 => by
    obtain ⟨ih0, ih1⟩ := cartoucheref07_One.mono_l k
    refine ⟨?_, ?_⟩
    · intro y0 y1 y2 y3 y4 y5
      unfold cartoucheref07_One.j0
      repeat' first
      | (with_reducible exact ih0 _ _ _ _ _ _)
      | (with_reducible exact ih1 _ _ _ _ _ _)
      | (with_reducible exact cartoucheref06_May.mono _ _ _ _ _)
      | (with_reducible exact LeO.refl _)
      | (with_reducible exact LeO.none _)
      | (with_reducible refine LeO.ite ?_ ?_)
      | (with_reducible refine LeO.bind ?_ (fun _ => ?_))
      | exact ih0 _ _ _ _ _ _
      | exact ih1 _ _ _ _ _ _
      | exact cartoucheref06_May.mono _ _ _ _ _
      | exact LeO.none _
      | refine LeO.ite ?_ ?_
      | refine LeO.bind ?_ (fun _ => ?_)
    · intro y0 y1 y2 y3 y4 y5
      unfold cartoucheref07_One.j1
      repeat' first
      | (with_reducible exact ih0 _ _ _ _ _ _)
      | (with_reducible exact ih1 _ _ _ _ _ _)
      | (with_reducible exact cartoucheref06_May.mono _ _ _ _ _)
      | (with_reducible exact LeO.refl _)
      | (with_reducible exact LeO.none _)
      | (with_reducible refine LeO.ite ?_ ?_)
      | (with_reducible refine LeO.bind ?_ (fun _ => ?_))
      | exact ih0 _ _ _ _ _ _
      | exact ih1 _ _ _ _ _ _
      | exact cartoucheref06_May.mono _ _ _ _ _
      | exact LeO.none _
      | refine LeO.ite ?_ ?_
      | refine LeO.bind ?_ (fun _ => ?_)
theorem cartoucheref07_One.mono : ∀ a0 a1 a2 a3 a4 k, LeO (cartoucheref07_One.f k a0 a1 a2 a3 a4) (cartoucheref07_One.f (k + 1) a0 a1 a2 a3 a4) := by
 intro a0 a1 a2 a3 a4 k
 obtain ⟨ih0, ih1⟩ := cartoucheref07_One.mono_l k
 unfold cartoucheref07_One.f
 repeat' first
  | (with_reducible exact ih0 _ _ _ _ _ _)
  | (with_reducible exact ih1 _ _ _ _ _ _)
  | (with_reducible exact cartoucheref06_May.mono _ _ _ _ _)
  | (with_reducible exact LeO.refl _)
  | (with_reducible exact LeO.none _)
  | (with_reducible refine LeO.ite ?_ ?_)
  | (with_reducible refine LeO.bind ?_ (fun _ => ?_))
  | exact ih0 _ _ _ _ _ _
  | exact ih1 _ _ _ _ _ _
  | exact cartoucheref06_May.mono _ _ _ _ _
  | exact LeO.none _
  | refine LeO.ite ?_ ?_
  | refine LeO.bind ?_ (fun _ => ?_)
theorem cartoucheref07_One.calls (k : Nat) (a0 : ByteArray) (a1_0 : Int) (a1_1 : Int) (a1_2 : ByteArray) (a1_3 : ByteArray) (r1 : Int) (r2 : Int) (r3 : ByteArray) (r4 : ByteArray) (r5 : Int) (w : World) (h : cartoucheref07_One.f k a0 a1_0 a1_1 a1_2 a1_3 = some (r1, r2, r3, r4, r5)) :
 Calls Tryz.prog 97 #[.string a0, .agg #[.int .i64 a1_0, .int .i64 a1_1, .string a1_2, .string a1_3]] w fun e w' => e = .returned (.tuple #[.agg #[.int .i64 r1, .int .i64 r2, .string r3, .string r4], .int .i64 r5]) ∧ Below w.heap.size w w' := by
 have hu53 := Tryz.underlying53
 have HB := Aside0.mk (Below.refl w.heap.size w)
 have H : ((cartoucheref06_May.f k a1_0 a1_1 a1_2 a1_3).bind fun t525 => (if t525 = true then (if (a0.size : Int) < 1 then (cartoucheref07_One.j0 k a0 true a1_0 a1_1 a1_2 a1_3) else (cartoucheref07_One.j0 k a0 (decide ((a0.size : Int) > 32)) a1_0 a1_1 a1_2 a1_3)) else (cartoucheref07_One.j0 k a0 true a1_0 a1_1 a1_2 a1_3))) = some (r1, r2, r3, r4, r5) := h
 clear h
 replace H := Option.bind_eq_some_iff.mp H
 obtain ⟨t525, A30, H⟩ := H
 try dsimp only [-dreduceIte] at H
 have A3 := Aside0.mk A30
 clear A30
 have HC4 := Aside0.mk H
 clear H
 go_enter Tryz.func97, Tryz.ntmps97
 go_upto_region 2 with (first | ((with_reducible refine gate_dst (N := 3) rfl ?_); (try (refine gate_guard (by rfl) ?_; dsimp only)); refine box_event ?hg (N := 3) ?hd (cs := #[.int .i64 a1_0, .int .i64 a1_1, .string a1_2, .string a1_3]) (t := 53) ?hr ?_; (case hd => rfl); (case hg => rfl); (case hr => first | (go_simp; done) | (go_simp; rfl)); intro gb523 hg w5 hbox hb; have n0_ := Aside0.mk (below_step (by repeat (first | (with_reducible first | exact HB.out | apply below_alloc | apply pw_below_drewN | apply below_drew1) | exact HB.out)) hb); have n1_ := Aside0.mk (hbox); have n2_ := Aside0.mk ((by rw [hg]; exact (below_size (by repeat (first | (with_reducible first | exact HB.out | apply below_alloc | apply pw_below_drewN | apply below_drew1) | exact HB.out))) : w.heap.size ≤ gb523)); have n3_ := Aside0.mk ((by rw [hg]; exact (below_size (by repeat (first | (with_reducible first | exact HB.out | apply below_alloc | apply pw_below_drewN | apply below_drew1) | exact HB.out))) : w.heap.size ≤ gb523)); clear HB; have HB := n0_; have BK523 := n1_; have GW523 := n2_; have GE523 := n3_; clear n0_ n1_ n2_ n3_; clear hb hbox hg) | ((with_reducible refine gate_dst (N := 4) rfl ?_); (try (refine gate_guard (by rfl) ?_; dsimp only)); refine box_event ?hg (N := 4) ?hd (cs := #[.int .i64 0, .int .i64 0, .string (⟨#[]⟩ : ByteArray), .string (⟨#[]⟩ : ByteArray)]) (t := 53) ?hr ?_; (case hd => rfl); (case hg => rfl); (case hr => first | (go_simp; done) | (go_simp; rfl)); intro gb524 hg w6 hbox hb; have n0_ := Aside0.mk (blk_below (g := gb523) (o := .cells #[.int .i64 a1_0, .int .i64 a1_1, .string a1_2, .string a1_3] 53 (0, 0)) (by (with_reducible repeat (first | refine blk_drewN ?_ _ | refine blk_drew ?_ | refine blk_alloc ?_ _)); exact BK523.out) hb); have n1_ := Aside0.mk (below_step (by repeat (first | (with_reducible first | exact HB.out | apply below_alloc | apply pw_below_drewN | apply below_drew1 | refine below_set ?_ GE523.out) | exact HB.out)) hb); have n2_ := Aside0.mk (hbox); have n3_ := Aside0.mk ((by rw [hg]; exact (below_size (by repeat (first | (with_reducible first | exact HB.out | apply below_alloc | apply pw_below_drewN | apply below_drew1 | refine below_set ?_ GE523.out) | exact HB.out))) : w.heap.size ≤ gb524)); have n4_ := Aside0.mk ((by rw [hg]; exact (below_size (by repeat (first | (with_reducible first | exact HB.out | apply below_alloc | apply pw_below_drewN | apply below_drew1 | refine below_set ?_ GE523.out) | exact HB.out))) : w.heap.size ≤ gb524)); have n5_ := Aside0.mk ((by rw [hg]; exact Nat.ne_of_lt (blk_lt (g := gb523) (o := .cells #[.int .i64 a1_0, .int .i64 a1_1, .string a1_2, .string a1_3] 53 (0, 0)) (by (with_reducible repeat (first | refine blk_drewN ?_ _ | refine blk_drew ?_ | refine blk_alloc ?_ _)); exact BK523.out)) : gb523 ≠ gb524)); have n6_ := Aside0.mk ((by rw [hg]; exact Nat.ne_of_gt (blk_lt (g := gb523) (o := .cells #[.int .i64 a1_0, .int .i64 a1_1, .string a1_2, .string a1_3] 53 (0, 0)) (by (with_reducible repeat (first | refine blk_drewN ?_ _ | refine blk_drew ?_ | refine blk_alloc ?_ _)); exact BK523.out)) : gb524 ≠ gb523)); clear BK523; clear HB; have BK523 := n0_; have HB := n1_; have BK524 := n2_; have GW524 := n3_; have GE524 := n4_; have NB523_524 := n5_; have NB524_523 := n6_; clear n0_ n1_ n2_ n3_ n4_ n5_ n6_; clear hb hbox hg; have hnb7 := NB523_524.out; have hnc7 := NB524_523.out; have hcz8_0 : w6.cell? ⟨gb523, 0, none⟩ = some (.int .i64 a1_0) := (blk_cell BK523.out 0).trans rfl; have hcz8_1 : w6.cell? ⟨gb523, 1, none⟩ = some (.int .i64 a1_1) := (blk_cell BK523.out 1).trans rfl; have hcz8_2 : w6.cell? ⟨gb523, 2, none⟩ = some (.string a1_2) := (blk_cell BK523.out 2).trans rfl; have hcz8_3 : w6.cell? ⟨gb523, 3, none⟩ = some (.string a1_3) := (blk_cell BK523.out 3).trans rfl; have hfz8_0 := blk_frozen BK523.out 0; have hfz8_1 := blk_frozen BK523.out 1; have hfz8_2 := blk_frozen BK523.out 2; have hfz8_3 := blk_frozen BK523.out 3) | ((with_reducible refine look_callee (f := 29) rfl ?_); refine goesL_ (some 8) rfl rfl Tryz.func29 (by kernel_rfl) rfl #[.agg #[.int .i64 a1_0, .int .i64 a1_1, .string a1_2, .string a1_3]] rfl (by (try simp only [List.map_toArray, List.map_cons, List.map_nil]); first | done | rfl | (simp only [List.length_drop, List.length_take]; rfl)) ?_; (with_reducible refine (cartoucheref06_May.calls k a1_0 a1_1 a1_2 a1_3 t525 _ A3.out).mono ?_); rintro e w9 ⟨rfl, hb⟩; refine ⟨_, rfl, ?_⟩; have n0_ := Aside0.mk (blk_below (g := gb523) (o := .cells #[.int .i64 a1_0, .int .i64 a1_1, .string a1_2, .string a1_3] 53 (0, 0)) (by (with_reducible repeat (first | refine blk_drewN ?_ _ | refine blk_drew ?_ | refine blk_alloc ?_ _)); exact BK523.out) hb); have n1_ := Aside0.mk (blk_below (g := gb524) (o := .cells #[.int .i64 0, .int .i64 0, .string (⟨#[]⟩ : ByteArray), .string (⟨#[]⟩ : ByteArray)] 53 (0, 0)) (by (with_reducible repeat (first | refine blk_drewN ?_ _ | refine blk_drew ?_ | refine blk_alloc ?_ _)); exact BK524.out) hb); have n2_ := Aside0.mk (below_step (by repeat (first | (with_reducible first | exact HB.out | apply below_alloc | apply pw_below_drewN | apply below_drew1 | refine below_set ?_ GE523.out | refine below_set ?_ GE524.out) | exact HB.out)) hb); clear BK523; clear BK524; clear HB; have BK523 := n0_; have BK524 := n1_; have HB := n2_; clear n0_ n1_ n2_; (try clear hb); (try clear hb2); (try clear hk); (try clear hi)))
 (try simp only [Act.put, List.setIfInBounds_toArray, List.set_cons_zero, List.set_cons_succ])
 go_cut [20] (fun v20 wc => ∃ (kq : Nat) (x20_3 : Bool), v20 = .bool x20_3 ∧ Aside0 (cartoucheref07_One.j0 kq a0 x20_3 a1_0 a1_1 a1_2 a1_3 = some (r1, r2, r3, r4, r5)) ∧ Aside0 (kq ≤ k) ∧ Aside0 (wc.heap[gb523]? = some (.cells #[.int .i64 a1_0, .int .i64 a1_1, .string a1_2, .string a1_3] 53 (0, 0))) ∧ Aside0 (wc.heap[gb524]? = some (.cells #[.int .i64 0, .int .i64 0, .string (⟨#[]⟩ : ByteArray), .string (⟨#[]⟩ : ByteArray)] 53 (0, 0))) ∧ Aside0 (Below w.heap.size w wc))
 case first =>
  have H := HC4.out
  clear HC4
  by_cases c10 : t525 = true
  · subst c10
    rw [if_pos rfl] at H
    by_cases c11 : (a0.size : Int) < 1
    · rw [if_pos c11] at H
      have c11b0 : decide ((a0.size : Int) < 1) = true := decide_eq_true c11
      have c11b1 : decide (a0.size < 1) = true := decide_eq_true (by omega)
      clear c11
      (first | rw [c11b0] | (simp only [i64_w, i32_w]; rw [c11b0]) | skip)
      have H' := Aside0.mk H
      clear H
      go_wp2
      go_meet
      case rel => exact ⟨_, (true), (by first | rfl | (simp; done) | (simp [*]; done)), H', ⟨by first | omega | exact Nat.le_refl _⟩, ⟨by (with_reducible repeat (first | refine blk_drewN ?_ _ | refine blk_drew ?_ | refine blk_alloc ?_ _)); exact BK523.out⟩, ⟨by (with_reducible repeat (first | refine blk_drewN ?_ _ | refine blk_drew ?_ | refine blk_alloc ?_ _)); exact BK524.out⟩, ⟨by repeat (first | (with_reducible first | exact HB.out | apply below_alloc | apply pw_below_drewN | apply below_drew1 | refine below_set ?_ GE523.out | refine below_set ?_ GE524.out) | exact HB.out)⟩⟩
    · rw [if_neg c11] at H
      have c11b0 : decide ((a0.size : Int) < 1) = false := decide_eq_false c11
      have c11b1 : decide (a0.size < 1) = false := decide_eq_false (by omega)
      clear c11
      (first | rw [c11b0] | (simp only [i64_w, i32_w]; rw [c11b0]) | skip)
      have H' := Aside0.mk H
      clear H
      go_wp2
      go_meet
      case rel => exact ⟨_, (decide ((a0.size : Int) > 32)), (by first | rfl | (simp; done) | (simp [*]; done)), H', ⟨by first | omega | exact Nat.le_refl _⟩, ⟨by (with_reducible repeat (first | refine blk_drewN ?_ _ | refine blk_drew ?_ | refine blk_alloc ?_ _)); exact BK523.out⟩, ⟨by (with_reducible repeat (first | refine blk_drewN ?_ _ | refine blk_drew ?_ | refine blk_alloc ?_ _)); exact BK524.out⟩, ⟨by repeat (first | (with_reducible first | exact HB.out | apply below_alloc | apply pw_below_drewN | apply below_drew1 | refine below_set ?_ GE523.out | refine below_set ?_ GE524.out) | exact HB.out)⟩⟩
  · replace c10 := Bool.eq_false_iff.mpr c10
    subst c10
    rw [if_neg (show ¬ (false = true) by decide)] at H
    have H' := Aside0.mk H
    clear H
    go_wp2
    go_meet
    case rel => exact ⟨_, (true), (by first | rfl | (simp; done) | (simp [*]; done)), H', ⟨by first | omega | exact Nat.le_refl _⟩, ⟨by (with_reducible repeat (first | refine blk_drewN ?_ _ | refine blk_drew ?_ | refine blk_alloc ?_ _)); exact BK523.out⟩, ⟨by (with_reducible repeat (first | refine blk_drewN ?_ _ | refine blk_drew ?_ | refine blk_alloc ?_ _)); exact BK524.out⟩, ⟨by repeat (first | (with_reducible first | exact HB.out | apply below_alloc | apply pw_below_drewN | apply below_drew1 | refine below_set ?_ GE523.out | refine below_set ?_ GE524.out) | exact HB.out)⟩⟩
 case rest =>
  clear HC4
  try clear c1
  try clear c2
  try clear p2
  try clear c7
  try clear c9
  try clear c10
  try clear c11
  try clear c11b0
  try clear c11b1
  try clear hcz8_0
  try clear hcz8_1
  try clear hcz8_2
  try clear hcz8_3
  try clear hfz8_0
  try clear hfz8_1
  try clear hfz8_2
  try clear hfz8_3
  obtain ⟨kq, x20_3, rfl, HA, HJ3, BK523, BK524, HB⟩ := hcut
  cases kq with
  | zero => exact absurd HA.out (by simp [cartoucheref07_One.j0])
  | succ kj3 =>
     have H := HA.out
     clear HA
     simp only [cartoucheref07_One.j0] at H
     by_cases c12 : x20_3 = true
     · subst c12
       rw [if_pos rfl] at H
       simp only [Option.some.injEq, Prod.mk.injEq] at H
       obtain ⟨rfl, rfl, rfl, rfl, rfl⟩ := H
       have hnb13 := NB524_523.out
       have hnc13 := NB523_524.out
       have hcz14_0 : wc.cell? ⟨gb524, 0, none⟩ = some (.int .i64 0) := (blk_cell BK524.out 0).trans rfl
       have hcz14_1 : wc.cell? ⟨gb524, 1, none⟩ = some (.int .i64 0) := (blk_cell BK524.out 1).trans rfl
       have hcz14_2 : wc.cell? ⟨gb524, 2, none⟩ = some (.string (⟨#[]⟩ : ByteArray)) := (blk_cell BK524.out 2).trans rfl
       have hcz14_3 : wc.cell? ⟨gb524, 3, none⟩ = some (.string (⟨#[]⟩ : ByteArray)) := (blk_cell BK524.out 3).trans rfl
       have hfz14_0 := blk_frozen BK524.out 0
       have hfz14_1 := blk_frozen BK524.out 1
       have hfz14_2 := blk_frozen BK524.out 2
       have hfz14_3 := blk_frozen BK524.out 3
       go_wp2
       refine bodyPost_ret (results_ct rfl _ _ gb524 53 #[.int .i64 0, .int .i64 0, .string (⟨#[]⟩ : ByteArray), .string (⟨#[]⟩ : ByteArray)] (0, 0) _ rfl (by (with_reducible repeat (first | refine blk_drewN ?_ _ | refine blk_drew ?_ | refine blk_alloc ?_ _)); refine blk_put (cs := #[.int .i64 0, .int .i64 0, .string (⟨#[]⟩ : ByteArray), .string (⟨#[]⟩ : ByteArray)]) ?_ 3 _ rfl; (with_reducible repeat (first | refine blk_drewN ?_ _ | refine blk_drew ?_ | refine blk_alloc ?_ _)); refine blk_put (cs := #[.int .i64 0, .int .i64 0, .string (⟨#[]⟩ : ByteArray), .string (⟨#[]⟩ : ByteArray)]) ?_ 2 _ rfl; (with_reducible repeat (first | refine blk_drewN ?_ _ | refine blk_drew ?_ | refine blk_alloc ?_ _)); refine blk_put (cs := #[.int .i64 0, .int .i64 0, .string (⟨#[]⟩ : ByteArray), .string (⟨#[]⟩ : ByteArray)]) ?_ 1 _ rfl; (with_reducible repeat (first | refine blk_drewN ?_ _ | refine blk_drew ?_ | refine blk_alloc ?_ _)); refine blk_put (cs := #[.int .i64 0, .int .i64 0, .string (⟨#[]⟩ : ByteArray), .string (⟨#[]⟩ : ByteArray)]) ?_ 0 _ rfl; (with_reducible repeat (first | refine blk_drewN ?_ _ | refine blk_drew ?_ | refine blk_alloc ?_ _)); exact BK524.out) Tryz.underlying53 rfl (by kernel_rfl)) rfl ?_
       exact ⟨by first | rfl | (simp [errW_none, errW_some] <;> rfl) | (simp [*, errW_none, errW_some] <;> rfl) | (simp [bne]; done) | (simp [*, bne]; done), by repeat (first | (with_reducible first | exact HB.out | apply below_alloc | apply pw_below_drewN | apply below_drew1 | refine below_set ?_ GE523.out | refine below_set ?_ GE524.out) | exact HB.out)⟩
     · replace c12 := Bool.eq_false_iff.mpr c12
       subst c12
       rw [if_neg (show ¬ (false = true) by decide)] at H
       have HC15 := Aside0.mk H
       clear H
       go_upto_region 4 with (fail)
       go_cut [29] (fun v29 wc => ∃ (kq : Nat) (x29_14 : Bool), v29 = .bool x29_14 ∧ Aside0 (cartoucheref07_One.j1 kq a0 x29_14 a1_0 a1_1 a1_2 a1_3 = some (r1, r2, r3, r4, r5)) ∧ Aside0 (kq ≤ kj3) ∧ Aside0 (wc.heap[gb523]? = some (.cells #[.int .i64 a1_0, .int .i64 a1_1, .string a1_2, .string a1_3] 53 (0, 0))) ∧ Aside0 (wc.heap[gb524]? = some (.cells #[.int .i64 0, .int .i64 0, .string (⟨#[]⟩ : ByteArray), .string (⟨#[]⟩ : ByteArray)] 53 (0, 0))) ∧ Aside0 (Below w.heap.size w wc))
       case first =>
        have H := HC15.out
        clear HC15
        by_cases c16 : a1_0 = 2
        · rw [if_pos c16] at H
          have c16b0 : (a1_0 == 2) = true := beq_iff_eq.mpr c16
          have c16b1 : (a1_0 != 2) = false := bne_eq_false_iff_eq.mpr c16
          clear c16
          (first | rw [c16b0] | (simp only [i64_w, i32_w]; rw [c16b0]) | skip)
          have H' := Aside0.mk H
          clear H
          have hnb17 := NB523_524.out
          have hnc17 := NB524_523.out
          have hcz18_0 : wc.cell? ⟨gb523, 0, none⟩ = some (.int .i64 a1_0) := (blk_cell BK523.out 0).trans rfl
          have hcz18_1 : wc.cell? ⟨gb523, 1, none⟩ = some (.int .i64 a1_1) := (blk_cell BK523.out 1).trans rfl
          have hcz18_2 : wc.cell? ⟨gb523, 2, none⟩ = some (.string a1_2) := (blk_cell BK523.out 2).trans rfl
          have hcz18_3 : wc.cell? ⟨gb523, 3, none⟩ = some (.string a1_3) := (blk_cell BK523.out 3).trans rfl
          have hfz18_0 := blk_frozen BK523.out 0
          have hfz18_1 := blk_frozen BK523.out 1
          have hfz18_2 := blk_frozen BK523.out 2
          have hfz18_3 := blk_frozen BK523.out 3
          go_wp2
          go_meet
          case rel => exact ⟨_, (true), (by first | rfl | (simp; done) | (simp [*]; done)), H', ⟨by have := HJ3.out; first | omega | exact Nat.le_refl _⟩, ⟨by (with_reducible repeat (first | refine blk_drewN ?_ _ | refine blk_drew ?_ | refine blk_alloc ?_ _)); exact BK523.out⟩, ⟨by (with_reducible repeat (first | refine blk_drewN ?_ _ | refine blk_drew ?_ | refine blk_alloc ?_ _)); exact BK524.out⟩, ⟨by repeat (first | (with_reducible first | exact HB.out | apply below_alloc | apply pw_below_drewN | apply below_drew1 | refine below_set ?_ GE523.out | refine below_set ?_ GE524.out) | exact HB.out)⟩⟩
        · rw [if_neg c16] at H
          have c16b0 : (a1_0 == 2) = false := beq_eq_false_iff_ne.mpr c16
          have c16b1 : (a1_0 != 2) = true := bne_iff_ne.mpr c16
          (first | rw [c16b0] | (simp only [i64_w, i32_w]; rw [c16b0]) | skip)
          have H' := Aside0.mk H
          clear H
          have hnb19 := NB523_524.out
          have hnc19 := NB524_523.out
          have hcz20_0 : wc.cell? ⟨gb523, 0, none⟩ = some (.int .i64 a1_0) := (blk_cell BK523.out 0).trans rfl
          have hcz20_1 : wc.cell? ⟨gb523, 1, none⟩ = some (.int .i64 a1_1) := (blk_cell BK523.out 1).trans rfl
          have hcz20_2 : wc.cell? ⟨gb523, 2, none⟩ = some (.string a1_2) := (blk_cell BK523.out 2).trans rfl
          have hcz20_3 : wc.cell? ⟨gb523, 3, none⟩ = some (.string a1_3) := (blk_cell BK523.out 3).trans rfl
          have hfz20_0 := blk_frozen BK523.out 0
          have hfz20_1 := blk_frozen BK523.out 1
          have hfz20_2 := blk_frozen BK523.out 2
          have hfz20_3 := blk_frozen BK523.out 3
          go_wp2
          go_meet
          case rel => exact ⟨_, ((a1_0 == 3)), (by first | rfl | (simp; done) | (simp [*]; done)), H', ⟨by have := HJ3.out; first | omega | exact Nat.le_refl _⟩, ⟨by (with_reducible repeat (first | refine blk_drewN ?_ _ | refine blk_drew ?_ | refine blk_alloc ?_ _)); exact BK523.out⟩, ⟨by (with_reducible repeat (first | refine blk_drewN ?_ _ | refine blk_drew ?_ | refine blk_alloc ?_ _)); exact BK524.out⟩, ⟨by repeat (first | (with_reducible first | exact HB.out | apply below_alloc | apply pw_below_drewN | apply below_drew1 | refine below_set ?_ GE523.out | refine below_set ?_ GE524.out) | exact HB.out)⟩⟩
       case rest =>
        clear HC15
        try clear c1
        try clear c2
        try clear p2
        try clear c7
        try clear c9
        try clear c10
        try clear c11
        try clear c11b0
        try clear c11b1
        try clear c12
        try clear c13
        try clear c16
        try clear c16b0
        try clear c16b1
        try clear c17
        try clear c19
        try clear hcz14_0
        try clear hcz14_1
        try clear hcz14_2
        try clear hcz14_3
        try clear hcz18_0
        try clear hcz18_1
        try clear hcz18_2
        try clear hcz18_3
        try clear hcz20_0
        try clear hcz20_1
        try clear hcz20_2
        try clear hcz20_3
        try clear hcz8_0
        try clear hcz8_1
        try clear hcz8_2
        try clear hcz8_3
        try clear hfz14_0
        try clear hfz14_1
        try clear hfz14_2
        try clear hfz14_3
        try clear hfz18_0
        try clear hfz18_1
        try clear hfz18_2
        try clear hfz18_3
        try clear hfz20_0
        try clear hfz20_1
        try clear hfz20_2
        try clear hfz20_3
        try clear hfz8_0
        try clear hfz8_1
        try clear hfz8_2
        try clear hfz8_3
        try clear p2
        obtain ⟨kq, x29_14, rfl, HA, HJ14, BK523, BK524, HB⟩ := hcut
        cases kq with
        | zero => exact absurd HA.out (by simp [cartoucheref07_One.j1])
        | succ kj14 =>
           have H := HA.out
           clear HA
           simp only [cartoucheref07_One.j1] at H
           by_cases c21 : x29_14 = true
           · subst c21
             rw [if_pos rfl] at H
             replace H := Option.bind_eq_some_iff.mp H
             obtain ⟨⟨t526, t527⟩, A220, H⟩ := H
             try dsimp only [-dreduceIte] at H
             have A22 := Aside0.mk A220
             clear A220
             replace H := Option.bind_eq_some_iff.mp H
             obtain ⟨⟨t528, t529⟩, A230, H⟩ := H
             try dsimp only [-dreduceIte] at H
             have A23 := Aside0.mk A230
             clear A230
             simp only [Option.some.injEq, Prod.mk.injEq] at H
             obtain ⟨rfl, rfl, rfl, rfl, rfl⟩ := H
             have hnb24 := NB523_524.out
             have hnc24 := NB524_523.out
             have hcz25_0 : wc.cell? ⟨gb523, 0, none⟩ = some (.int .i64 a1_0) := (blk_cell BK523.out 0).trans rfl
             have hcz25_1 : wc.cell? ⟨gb523, 1, none⟩ = some (.int .i64 a1_1) := (blk_cell BK523.out 1).trans rfl
             have hcz25_2 : wc.cell? ⟨gb523, 2, none⟩ = some (.string a1_2) := (blk_cell BK523.out 2).trans rfl
             have hcz25_3 : wc.cell? ⟨gb523, 3, none⟩ = some (.string a1_3) := (blk_cell BK523.out 3).trans rfl
             have hfz25_0 := blk_frozen BK523.out 0
             have hfz25_1 := blk_frozen BK523.out 1
             have hfz25_2 := blk_frozen BK523.out 2
             have hfz25_3 := blk_frozen BK523.out 3
             go_wp2_with (first | ((with_reducible refine look_callee (f := 126) rfl ?_); refine goesL_ (some 34) rfl rfl Tryz.func126 (by kernel_rfl) rfl #[.string a0, .string a1_2] rfl (by (try simp only [List.map_toArray, List.map_cons, List.map_nil]); first | done | rfl | (simp only [List.length_drop, List.length_take]; rfl)) ?_; (with_reducible refine (cartoucheref07_KeyTag.calls a0 a1_2 t526 t527 _ A22.out).mono ?_); rintro e w26 ⟨rfl, hb⟩; refine ⟨_, rfl, ?_⟩; have n0_ := Aside0.mk (blk_below (g := gb523) (o := .cells #[.int .i64 a1_0, .int .i64 a1_1, .string a1_2, .string a1_3] 53 (0, 0)) (by (with_reducible repeat (first | refine blk_drewN ?_ _ | refine blk_drew ?_ | refine blk_alloc ?_ _)); exact BK523.out) hb); have n1_ := Aside0.mk (blk_below (g := gb524) (o := .cells #[.int .i64 0, .int .i64 0, .string (⟨#[]⟩ : ByteArray), .string (⟨#[]⟩ : ByteArray)] 53 (0, 0)) (by (with_reducible repeat (first | refine blk_drewN ?_ _ | refine blk_drew ?_ | refine blk_alloc ?_ _)); exact BK524.out) hb); have n2_ := Aside0.mk (below_step (by repeat (first | (with_reducible first | exact HB.out | apply below_alloc | apply pw_below_drewN | apply below_drew1 | refine below_set ?_ GE523.out | refine below_set ?_ GE524.out) | exact HB.out)) hb); clear BK523; clear BK524; clear HB; have BK523 := n0_; have BK524 := n1_; have HB := n2_; clear n0_ n1_ n2_; (try clear hb); (try clear hb2); (try clear hk); (try clear hi); have hcz27_0 : w26.cell? ⟨gb523, 0, none⟩ = some (.int .i64 a1_0) := (blk_cell BK523.out 0).trans rfl; have hcz27_1 : w26.cell? ⟨gb523, 1, none⟩ = some (.int .i64 a1_1) := (blk_cell BK523.out 1).trans rfl; have hcz27_2 : w26.cell? ⟨gb523, 2, none⟩ = some (.string a1_2) := (blk_cell BK523.out 2).trans rfl; have hcz27_3 : w26.cell? ⟨gb523, 3, none⟩ = some (.string a1_3) := (blk_cell BK523.out 3).trans rfl; have hfz27_0 := blk_frozen BK523.out 0; have hfz27_1 := blk_frozen BK523.out 1; have hfz27_2 := blk_frozen BK523.out 2; have hfz27_3 := blk_frozen BK523.out 3) | ((with_reducible refine look_callee (f := 127) rfl ?_); refine goesL_ (some 42) rfl rfl Tryz.func127 (by kernel_rfl) rfl #[.string a0, .string a1_3] rfl (by (try simp only [List.map_toArray, List.map_cons, List.map_nil]); first | done | rfl | (simp only [List.length_drop, List.length_take]; rfl)) ?_; (with_reducible refine (cartoucheref07_ValTag.calls a0 a1_3 t528 t529 _ A23.out).mono ?_); rintro e w28 ⟨rfl, hb⟩; refine ⟨_, rfl, ?_⟩; have n0_ := Aside0.mk (blk_below (g := gb523) (o := .cells #[.int .i64 a1_0, .int .i64 a1_1, .string t526, .string a1_3] 53 (0, 0)) (by (with_reducible repeat (first | refine blk_drewN ?_ _ | refine blk_drew ?_ | refine blk_alloc ?_ _)); refine blk_put (cs := #[.int .i64 a1_0, .int .i64 a1_1, .string a1_2, .string a1_3]) ?_ 2 _ rfl; (with_reducible repeat (first | refine blk_drewN ?_ _ | refine blk_drew ?_ | refine blk_alloc ?_ _)); exact BK523.out) hb); have n1_ := Aside0.mk (blk_below (g := gb524) (o := .cells #[.int .i64 0, .int .i64 0, .string (⟨#[]⟩ : ByteArray), .string (⟨#[]⟩ : ByteArray)] 53 (0, 0)) (by (with_reducible repeat (first | refine blk_drewN ?_ _ | refine blk_drew ?_ | refine blk_alloc ?_ _)); refine blk_far ?_ NB524_523.out _; (with_reducible repeat (first | refine blk_drewN ?_ _ | refine blk_drew ?_ | refine blk_alloc ?_ _)); exact BK524.out) hb); have n2_ := Aside0.mk (below_step (by repeat (first | (with_reducible first | exact HB.out | apply below_alloc | apply pw_below_drewN | apply below_drew1 | refine below_set ?_ GE523.out | refine below_set ?_ GE524.out) | exact HB.out)) hb); clear BK523; clear BK524; clear HB; have BK523 := n0_; have BK524 := n1_; have HB := n2_; clear n0_ n1_ n2_; (try clear hb); (try clear hb2); (try clear hk); (try clear hi); have hcz29_0 : w28.cell? ⟨gb523, 0, none⟩ = some (.int .i64 a1_0) := (blk_cell BK523.out 0).trans rfl; have hcz29_1 : w28.cell? ⟨gb523, 1, none⟩ = some (.int .i64 a1_1) := (blk_cell BK523.out 1).trans rfl; have hcz29_2 : w28.cell? ⟨gb523, 2, none⟩ = some (.string t526) := (blk_cell BK523.out 2).trans rfl; have hcz29_3 : w28.cell? ⟨gb523, 3, none⟩ = some (.string a1_3) := (blk_cell BK523.out 3).trans rfl; have hfz29_0 := blk_frozen BK523.out 0; have hfz29_1 := blk_frozen BK523.out 1; have hfz29_2 := blk_frozen BK523.out 2; have hfz29_3 := blk_frozen BK523.out 3; have hcz30_0 : w28.cell? ⟨gb524, 0, none⟩ = some (.int .i64 0) := (blk_cell BK524.out 0).trans rfl; have hcz30_1 : w28.cell? ⟨gb524, 1, none⟩ = some (.int .i64 0) := (blk_cell BK524.out 1).trans rfl; have hcz30_2 : w28.cell? ⟨gb524, 2, none⟩ = some (.string (⟨#[]⟩ : ByteArray)) := (blk_cell BK524.out 2).trans rfl; have hcz30_3 : w28.cell? ⟨gb524, 3, none⟩ = some (.string (⟨#[]⟩ : ByteArray)) := (blk_cell BK524.out 3).trans rfl; have hfz30_0 := blk_frozen BK524.out 0; have hfz30_1 := blk_frozen BK524.out 1; have hfz30_2 := blk_frozen BK524.out 2; have hfz30_3 := blk_frozen BK524.out 3))
             refine bodyPost_ret (results_ct rfl _ _ gb524 53 #[.int .i64 a1_0, .int .i64 a1_1, .string t526, .string t528] (0, 0) _ rfl (by (with_reducible repeat (first | refine blk_drewN ?_ _ | refine blk_drew ?_ | refine blk_alloc ?_ _)); refine blk_put (cs := #[.int .i64 a1_0, .int .i64 a1_1, .string t526, .string (⟨#[]⟩ : ByteArray)]) ?_ 3 _ rfl; (with_reducible repeat (first | refine blk_drewN ?_ _ | refine blk_drew ?_ | refine blk_alloc ?_ _)); refine blk_put (cs := #[.int .i64 a1_0, .int .i64 a1_1, .string (⟨#[]⟩ : ByteArray), .string (⟨#[]⟩ : ByteArray)]) ?_ 2 _ rfl; (with_reducible repeat (first | refine blk_drewN ?_ _ | refine blk_drew ?_ | refine blk_alloc ?_ _)); refine blk_put (cs := #[.int .i64 a1_0, .int .i64 0, .string (⟨#[]⟩ : ByteArray), .string (⟨#[]⟩ : ByteArray)]) ?_ 1 _ rfl; (with_reducible repeat (first | refine blk_drewN ?_ _ | refine blk_drew ?_ | refine blk_alloc ?_ _)); refine blk_put (cs := #[.int .i64 0, .int .i64 0, .string (⟨#[]⟩ : ByteArray), .string (⟨#[]⟩ : ByteArray)]) ?_ 0 _ rfl; (with_reducible repeat (first | refine blk_drewN ?_ _ | refine blk_drew ?_ | refine blk_alloc ?_ _)); refine blk_far ?_ NB524_523.out _; (with_reducible repeat (first | refine blk_drewN ?_ _ | refine blk_drew ?_ | refine blk_alloc ?_ _)); exact BK524.out) Tryz.underlying53 rfl (by kernel_rfl)) rfl ?_
             exact ⟨by first | rfl | (simp [errW_none, errW_some] <;> rfl) | (simp [*, errW_none, errW_some] <;> rfl) | (simp [bne]; done) | (simp [*, bne]; done), by repeat (first | (with_reducible first | exact HB.out | apply below_alloc | apply pw_below_drewN | apply below_drew1 | refine below_set ?_ GE523.out | refine below_set ?_ GE524.out) | exact HB.out)⟩
           · replace c21 := Bool.eq_false_iff.mpr c21
             subst c21
             rw [if_neg (show ¬ (false = true) by decide)] at H
             simp only [Option.some.injEq, Prod.mk.injEq] at H
             obtain ⟨rfl, rfl, rfl, rfl, rfl⟩ := H
             have hnb31 := NB523_524.out
             have hnc31 := NB524_523.out
             have hcz32_0 : wc.cell? ⟨gb523, 0, none⟩ = some (.int .i64 a1_0) := (blk_cell BK523.out 0).trans rfl
             have hcz32_1 : wc.cell? ⟨gb523, 1, none⟩ = some (.int .i64 a1_1) := (blk_cell BK523.out 1).trans rfl
             have hcz32_2 : wc.cell? ⟨gb523, 2, none⟩ = some (.string a1_2) := (blk_cell BK523.out 2).trans rfl
             have hcz32_3 : wc.cell? ⟨gb523, 3, none⟩ = some (.string a1_3) := (blk_cell BK523.out 3).trans rfl
             have hfz32_0 := blk_frozen BK523.out 0
             have hfz32_1 := blk_frozen BK523.out 1
             have hfz32_2 := blk_frozen BK523.out 2
             have hfz32_3 := blk_frozen BK523.out 3
             have hcz33_0 : wc.cell? ⟨gb524, 0, none⟩ = some (.int .i64 0) := (blk_cell BK524.out 0).trans rfl
             have hcz33_1 : wc.cell? ⟨gb524, 1, none⟩ = some (.int .i64 0) := (blk_cell BK524.out 1).trans rfl
             have hcz33_2 : wc.cell? ⟨gb524, 2, none⟩ = some (.string (⟨#[]⟩ : ByteArray)) := (blk_cell BK524.out 2).trans rfl
             have hcz33_3 : wc.cell? ⟨gb524, 3, none⟩ = some (.string (⟨#[]⟩ : ByteArray)) := (blk_cell BK524.out 3).trans rfl
             have hfz33_0 := blk_frozen BK524.out 0
             have hfz33_1 := blk_frozen BK524.out 1
             have hfz33_2 := blk_frozen BK524.out 2
             have hfz33_3 := blk_frozen BK524.out 3
             go_wp2
             refine bodyPost_ret (results_ct rfl _ _ gb524 53 #[.int .i64 a1_0, .int .i64 a1_1, .string a1_2, .string a1_3] (0, 0) _ rfl (by (with_reducible repeat (first | refine blk_drewN ?_ _ | refine blk_drew ?_ | refine blk_alloc ?_ _)); refine blk_put (cs := #[.int .i64 a1_0, .int .i64 a1_1, .string a1_2, .string (⟨#[]⟩ : ByteArray)]) ?_ 3 _ rfl; (with_reducible repeat (first | refine blk_drewN ?_ _ | refine blk_drew ?_ | refine blk_alloc ?_ _)); refine blk_put (cs := #[.int .i64 a1_0, .int .i64 a1_1, .string (⟨#[]⟩ : ByteArray), .string (⟨#[]⟩ : ByteArray)]) ?_ 2 _ rfl; (with_reducible repeat (first | refine blk_drewN ?_ _ | refine blk_drew ?_ | refine blk_alloc ?_ _)); refine blk_put (cs := #[.int .i64 a1_0, .int .i64 0, .string (⟨#[]⟩ : ByteArray), .string (⟨#[]⟩ : ByteArray)]) ?_ 1 _ rfl; (with_reducible repeat (first | refine blk_drewN ?_ _ | refine blk_drew ?_ | refine blk_alloc ?_ _)); refine blk_put (cs := #[.int .i64 0, .int .i64 0, .string (⟨#[]⟩ : ByteArray), .string (⟨#[]⟩ : ByteArray)]) ?_ 0 _ rfl; (with_reducible repeat (first | refine blk_drewN ?_ _ | refine blk_drew ?_ | refine blk_alloc ?_ _)); exact BK524.out) Tryz.underlying53 rfl (by kernel_rfl)) rfl ?_
             exact ⟨by first | rfl | (simp [errW_none, errW_some] <;> rfl) | (simp [*, errW_none, errW_some] <;> rfl) | (simp [bne]; done) | (simp [*, bne]; done), by repeat (first | (with_reducible first | exact HB.out | apply below_alloc | apply pw_below_drewN | apply below_drew1 | refine below_set ?_ GE523.out | refine below_set ?_ GE524.out) | exact HB.out)⟩
def cartoucheref07_All.l0 : Nat → ByteArray → List (S53) → List (S53) → Int → Option ((List (S53)) × Int)
 | 0, _, _, _, _ => none
 | k + 1, x0, x1, x6, x7 => if x7 < (x1.length : Int) then (if 0 ≤ x7 then ((cartoucheref07_One.f k x0 ((rd_T53 x1 x7).f0) ((rd_T53 x1 x7).f1) ((rd_T53 x1 x7).f2) ((rd_T53 x1 x7).f3)).bind fun bt531 => (if bt531.2.2.2.2 = 0 then (if x6.length < 2932031007402 then (cartoucheref07_All.l0 k x0 x1 (x6 ++ [(⟨bt531.1, bt531.2.1, bt531.2.2.1, bt531.2.2.2.1⟩ : S53)]) (wrap64 (x7 + 1))) else (none)) else (some (([] : List (S53)), bt531.2.2.2.2)))) else (none)) else (some (x6, 0))
def cartoucheref07_All.f (k : Nat) (a0 : ByteArray) (l1 : List (S53)) : Option ((List (S53)) × Int) := if (l1.length : Int) > 256 then (some (([] : List (S53)), 4)) else (cartoucheref07_All.l0 k a0 l1 ([] : List (S53)) 0)
theorem cartoucheref07_All.mono_l : ∀ k, (∀ y0 y1 y2 y3, LeO (cartoucheref07_All.l0 k y0 y1 y2 y3) (cartoucheref07_All.l0 (k + 1) y0 y1 y2 y3))
 | 0 => fun _ _ _ _ r h => by simp [cartoucheref07_All.l0] at h
 | k + 1 => by
    have ih0 := cartoucheref07_All.mono_l k
    · intro y0 y1 y2 y3
      unfold cartoucheref07_All.l0
      repeat' first
      | (with_reducible exact ih0 _ _ _ _)
      | (with_reducible exact cartoucheref07_One.mono _ _ _ _ _ _)
      | (with_reducible exact LeO.refl _)
      | (with_reducible exact LeO.none _)
      | (with_reducible refine LeO.ite ?_ ?_)
      | (with_reducible refine LeO.bind ?_ (fun _ => ?_))
      | exact ih0 _ _ _ _
      | exact cartoucheref07_One.mono _ _ _ _ _ _
      | exact LeO.none _
      | refine LeO.ite ?_ ?_
      | refine LeO.bind ?_ (fun _ => ?_)
theorem cartoucheref07_All.mono : ∀ a0 a1 k, LeO (cartoucheref07_All.f k a0 a1) (cartoucheref07_All.f (k + 1) a0 a1) := by
 intro a0 a1 k
 have ih0 := cartoucheref07_All.mono_l k
 unfold cartoucheref07_All.f
 repeat' first
  | (with_reducible exact ih0 _ _ _ _)
  | (with_reducible exact cartoucheref07_One.mono _ _ _ _ _ _)
  | (with_reducible exact LeO.refl _)
  | (with_reducible exact LeO.none _)
  | (with_reducible refine LeO.ite ?_ ?_)
  | (with_reducible refine LeO.bind ?_ (fun _ => ?_))
  | exact ih0 _ _ _ _
  | exact cartoucheref07_One.mono _ _ _ _ _ _
  | exact LeO.none _
  | refine LeO.ite ?_ ?_
  | refine LeO.bind ?_ (fun _ => ?_)
theorem cartoucheref07_All.calls (k : Nat) (a0 : ByteArray) (A1 : Option Addr) (c1 : Nat) (l1 : List (S53)) (r1 : List (S53)) (r2 : Int) (w : World) (hr1 : Kd.C k53 w A1 l1.length l1) (hc1 : l1.length ≤ c1) (h : cartoucheref07_All.f k a0 l1 = some (r1, r2)) :
 Calls Tryz.prog 62 #[.string a0, .slice A1 l1.length c1] w fun e w' => ∃ v0_ : Value, e = .returned (.tuple #[v0_, .int .i64 r2]) ∧ Kd.R k53 53 w' w.heap.size (fun _ => True) v0_ r1 ∧ Below w.heap.size w w' := by
 have hu53 := Tryz.underlying53
 have HR1 := Aside0.mk hr1
 have HC1 := Aside0.mk hc1
 clear hr1 hc1
 have HB := Aside0.mk (Below.refl w.heap.size w)
 have H : (if (l1.length : Int) > 256 then (some (([] : List (S53)), 4)) else (cartoucheref07_All.l0 k a0 l1 ([] : List (S53)) 0)) = some (r1, r2) := h
 clear h
 by_cases c3 : (l1.length : Int) > 256
 · rw [if_pos c3] at H
   have c3b0 : decide (256 < (l1.length : Int)) = true := decide_eq_true c3
   have c3b1 : decide (256 < l1.length) = true := decide_eq_true (by omega)
   clear c3
   simp only [Option.some.injEq, Prod.mk.injEq] at H
   obtain ⟨rfl, rfl⟩ := H
   go_enter Tryz.func62, Tryz.ntmps62
   go_wp2
   go_ret2
   exact ⟨_, by first | rfl | (simp [errW_none, errW_some] <;> rfl) | (simp [*, errW_none, errW_some] <;> rfl), by first | exact Kd.R_nil _ _ _ _ _ | exact Kd.N_nil _ _ _ _ _ | exact Kd.V_nil _ _ _ _ _ | exact Kd.Q_nil _ _ _ _ _ | exact Kd.S_nil _ _ _ _ _, by repeat (first | (with_reducible first | exact HB.out | apply below_alloc | apply pw_below_drewN | apply below_drew1) | exact HB.out)⟩
 · rw [if_neg c3] at H
   have c3b0 : decide (256 < (l1.length : Int)) = false := decide_eq_false c3
   have c3b1 : decide (256 < l1.length) = false := decide_eq_false (by omega)
   clear c3
   have H' := Aside0.mk H
   clear H
   go_enter Tryz.func62, Tryz.ntmps62
   go_wp2
   go_loopg [6, 7] k (fun kq v6 v7 w' => ∃ (x6_1 : List (S53)) (x7_1 : Int), v7 = .int .i64 x7_1 ∧ Aside0 (cartoucheref07_All.l0 kq a0 l1 x6_1 x7_1 = some (r1, r2)) ∧ Aside0 (kq ≤ k) ∧ Aside0 (Kd.R k53 53 w' w.heap.size (fun _ => True) v6 x6_1) ∧ Aside0 (Below w.heap.size w w'))
   case atStart => exact ⟨(([] : List (S53))), (0), (by first | rfl | (simp; done) | (simp [*]; done)), H', ⟨Nat.le_refl _⟩, ⟨by first | exact Kd.R_nil _ _ _ _ _ | exact Kd.N_nil _ _ _ _ _ | exact Kd.V_nil _ _ _ _ _ | exact Kd.Q_nil _ _ _ _ _ | exact Kd.S_nil _ _ _ _ _⟩, ⟨by repeat (first | (with_reducible first | exact HB.out | apply below_alloc | apply pw_below_drewN | apply below_drew1) | exact HB.out)⟩⟩
   case round =>
    clear H'
    try clear c1
    try clear p2
    try clear c3
    try clear c3b0
    try clear c3b1
    obtain ⟨x6_1, x7_1, rfl, HA, HK1, HO_6, HB⟩ := hrel
    cases gk with
    | zero => exact absurd HA.out (by simp [cartoucheref07_All.l0])
    | succ k1 =>
       have H := HA.out
       clear HA
       simp only [cartoucheref07_All.l0] at H
       by_cases c4 : x7_1 < (l1.length : Int)
       · rw [if_pos c4] at H
         have c4b0 : decide (x7_1 < (l1.length : Int)) = true := decide_eq_true c4
         clear c4
         by_cases c5 : 0 ≤ x7_1
         · rw [if_pos c5] at H
           have c5b0 : decide (0 ≤ x7_1) = true := decide_eq_true c5
           clear c5
           replace H := Option.bind_eq_some_iff.mp H
           obtain ⟨⟨t531, t532, t533, t534, t535⟩, A60, H⟩ := H
           try dsimp only [-dreduceIte] at H
           have A6 := Aside0.mk A60
           clear A60
           by_cases c7 : t535 = 0
           · rw [if_pos c7] at H
             have c7b0 : (t535 == 0) = true := beq_iff_eq.mpr c7
             have c7b1 : (t535 != 0) = false := bne_eq_false_iff_eq.mpr c7
             clear c7
             by_cases c8 : x6_1.length < 2932031007402
             · rw [if_pos c8] at H
               have LMc8 := Aside0.mk c8
               clear c8
               obtain ⟨y537, hy537⟩ : ∃ y_ : List (S53), y_ = (x6_1 ++ [(⟨t531, t532, t533, t534⟩ : S53)]) := ⟨_, rfl⟩
               replace H : (cartoucheref07_All.l0 k1 a0 l1 y537 (wrap64 (x7_1 + 1))) = some (r1, r2) := by first | (rw [hy537]; with_reducible exact H) | (have H2_ := (Option.bind_some _ _).symm.trans H; rw [hy537]; with_reducible exact H2_) | (have H2_ := (Option.bind_some _ _).symm.trans H; with_reducible exact H2_) | with_reducible exact H | (rw [hy537]; exact H) | exact H
               have Ny537 := Aside0.mk hy537
               clear hy537
               have H' := Aside0.mk H
               clear H
               have p530 : 0 ≤ (x7_1 : Int) := of_decide_eq_true (by first | (with_reducible assumption) | assumption)
               have q530 : x7_1 < (l1.length : Int) := of_decide_eq_true (by first | (with_reducible assumption) | assumption)
               obtain ⟨ad530, e530, hx530_0, hx530_1, hx530_2, hx530_3⟩ := at_T53 HR1.out x7_1 p530 q530
               cases e530
               replace hx530_0 := (HB.out.cell (World.block_lt_of_cell? w _ hx530_0)).trans hx530_0
               replace hx530_1 := (HB.out.cell (World.block_lt_of_cell? w _ hx530_1)).trans hx530_1
               replace hx530_2 := (HB.out.cell (World.block_lt_of_cell? w _ hx530_2)).trans hx530_2
               replace hx530_3 := (HB.out.cell (World.block_lt_of_cell? w _ hx530_3)).trans hx530_3
               replace p530 := eq_true p530
               replace q530 := eq_true q530
               go_wp2_with (first | ((with_reducible refine look_callee (f := 97) rfl ?_); refine goesL_ (some 25) rfl rfl Tryz.func97 (by kernel_rfl) rfl #[.string a0, .agg #[.int .i64 ((rd_T53 l1 x7_1).f0), .int .i64 ((rd_T53 l1 x7_1).f1), .string ((rd_T53 l1 x7_1).f2), .string ((rd_T53 l1 x7_1).f3)]] rfl (by (try simp only [List.map_toArray, List.map_cons, List.map_nil]); first | done | rfl | (simp only [List.length_drop, List.length_take]; rfl)) ?_; (with_reducible refine (cartoucheref07_One.calls k1 a0 ((rd_T53 l1 x7_1).f0) ((rd_T53 l1 x7_1).f1) ((rd_T53 l1 x7_1).f2) ((rd_T53 l1 x7_1).f3) t531 t532 t533 t534 t535 _ A6.out).mono ?_); rintro e w9 ⟨rfl, hb⟩; refine ⟨_, rfl, ?_⟩; have n0_ := Aside0.mk (Kd.R_below (by (with_reducible repeat (first | apply Kd.R_alloc | apply Kd.R_drewN | apply Kd.R_drew)); exact HO_6.out) hb); have n1_ := Aside0.mk (below_step (by repeat (first | (with_reducible first | exact HB.out | apply below_alloc | apply pw_below_drewN | apply below_drew1) | exact HB.out)) hb); clear HO_6; clear HB; have HO_6 := n0_; have HB := n1_; clear n0_ n1_; (try clear hb); (try clear hb2); (try clear hk); (try clear hi)) | ((with_reducible refine gate_dst (N := 8) rfl ?_); refine box_event ?hg (N := 8) ?hd (cs := #[.int .i64 0, .int .i64 0, .string (⟨#[]⟩ : ByteArray), .string (⟨#[]⟩ : ByteArray)]) (t := 53) ?hr ?_; (case hd => rfl); (case hg => rfl); (case hr => first | (go_simp; done) | (go_simp; rfl)); intro gb536 hg w10 hbox hb; have n0_ := Aside0.mk (Kd.R_below (Kd.R_elderB (by (with_reducible repeat (first | apply Kd.R_alloc | apply Kd.R_drewN | apply Kd.R_drew)); exact HO_6.out) gb536 (Nat.le_of_eq hg.symm)) hb); have n1_ := Aside0.mk (below_step (by repeat (first | (with_reducible first | exact HB.out | apply below_alloc | apply pw_below_drewN | apply below_drew1) | exact HB.out)) hb); have n2_ := Aside0.mk (hbox); have n3_ := Aside0.mk ((by rw [hg]; exact (below_size (by repeat (first | (with_reducible first | exact HB.out | apply below_alloc | apply pw_below_drewN | apply below_drew1) | exact HB.out))) : w.heap.size ≤ gb536)); have n4_ := Aside0.mk ((by rw [hg]; exact (below_size (by repeat (first | (with_reducible first | exact HB.out | apply below_alloc | apply pw_below_drewN | apply below_drew1) | exact HB.out))) : w.heap.size ≤ gb536)); clear HO_6; clear HB; have HO_6 := n0_; have HB := n1_; have BK536 := n2_; have GW536 := n3_; have GE536 := n4_; clear n0_ n1_ n2_ n3_ n4_; clear hb hbox hg; have hcz11_0 : w10.cell? ⟨gb536, 0, none⟩ = some (.int .i64 0) := (blk_cell BK536.out 0).trans rfl; have hcz11_1 : w10.cell? ⟨gb536, 1, none⟩ = some (.int .i64 0) := (blk_cell BK536.out 1).trans rfl; have hcz11_2 : w10.cell? ⟨gb536, 2, none⟩ = some (.string (⟨#[]⟩ : ByteArray)) := (blk_cell BK536.out 2).trans rfl; have hcz11_3 : w10.cell? ⟨gb536, 3, none⟩ = some (.string (⟨#[]⟩ : ByteArray)) := (blk_cell BK536.out 3).trans rfl; have hfz11_0 := blk_frozen BK536.out 0; have hfz11_1 := blk_frozen BK536.out 1; have hfz11_2 := blk_frozen BK536.out 2; have hfz11_3 := blk_frozen BK536.out 3) | ((with_reducible refine look_builtin (b := .append) (xs := #[.tmp 31, .tmp 33]) rfl ?_); at_builtin; refine Kd.R_append k53 (w0 := w) w.heap.size rfl (.tmp 31) (.tmp 33) 42 53 (.agg #[(.int .i64 0), (.int .i64 0), (.string ⟨#[]⟩), (.string ⟨#[]⟩)]) 48 rfl Tryz.underlying42 info53 rfl (by decide) (by omega) u6 x6_1 (⟨t531, t532, t533, t534⟩ : S53) [.int .i64 t531, .int .i64 t532, .string t533, .string t534] (fun k_ => k_ ≠ gb536) (fun _ => False) rfl (by first | (go_simp; done) | (go_simp; rfl)) ?aP (fun _ hk => hk.elim) ?aF ?aO ?aB ?aS ?aL ?_; (case aP => exact k53_mkM _ _ _ (⟨t531, t532, t533, t534⟩ : S53)); (case aB => exact (by repeat (first | (with_reducible first | exact HB.out | apply below_alloc | apply pw_below_drewN | apply below_drew1 | refine below_set ?_ GE536.out) | exact HB.out))); (case aF => exact (fun k_ hk => Kd.freshB (g := gb536) (o := .cells #[.int .i64 t531, .int .i64 t532, .string t533, .string t534] 53 (0, 0)) (by (with_reducible repeat (first | refine blk_drewN ?_ _ | refine blk_drew ?_ | refine blk_alloc ?_ _)); refine blk_put (cs := #[.int .i64 t531, .int .i64 t532, .string t533, .string (⟨#[]⟩ : ByteArray)]) ?_ 3 _ rfl; (with_reducible repeat (first | refine blk_drewN ?_ _ | refine blk_drew ?_ | refine blk_alloc ?_ _)); refine blk_put (cs := #[.int .i64 t531, .int .i64 t532, .string (⟨#[]⟩ : ByteArray), .string (⟨#[]⟩ : ByteArray)]) ?_ 2 _ rfl; (with_reducible repeat (first | refine blk_drewN ?_ _ | refine blk_drew ?_ | refine blk_alloc ?_ _)); refine blk_put (cs := #[.int .i64 t531, .int .i64 0, .string (⟨#[]⟩ : ByteArray), .string (⟨#[]⟩ : ByteArray)]) ?_ 1 _ rfl; (with_reducible repeat (first | refine blk_drewN ?_ _ | refine blk_drew ?_ | refine blk_alloc ?_ _)); refine blk_put (cs := #[.int .i64 0, .int .i64 0, .string (⟨#[]⟩ : ByteArray), .string (⟨#[]⟩ : ByteArray)]) ?_ 0 _ rfl; (with_reducible repeat (first | refine blk_drewN ?_ _ | refine blk_drew ?_ | refine blk_alloc ?_ _)); exact BK536.out) k_ hk)); (case aO => exact (by (with_reducible repeat (first | apply Kd.R_alloc | apply Kd.R_drewN | apply Kd.R_drew)); exact Kd.R_mono (Kd.R_far (p := ⟨gb536, 3, none⟩) (Kd.R_far (p := ⟨gb536, 2, none⟩) (Kd.R_far (p := ⟨gb536, 1, none⟩) (Kd.R_far (p := ⟨gb536, 0, none⟩) (Kd.R_mono HO_6.out (fun k_ hk => (⟨hk, hk.2⟩ : _ ∧ k_ ≠ gb536))) (fun _ hk => hk.2) (.int .i64 t531)) (fun _ hk => hk.2) (.int .i64 t532)) (fun _ hk => hk.2) (.string t533)) (fun _ hk => hk.2) (.string t534)) (fun _ hk => hk.1.2))); (case aS => exact (below_size (by repeat (first | (with_reducible first | exact HB.out | apply below_alloc | apply pw_below_drewN | apply below_drew1 | refine below_set ?_ GE536.out) | exact HB.out)))); (case aL => have := LMc8.out; omega); intro v538 w12 ho hb hg hat; rw [← Ny537.out] at ho; have n0_ := Aside0.mk (blk_grown (g := gb536) (o := .cells #[.int .i64 t531, .int .i64 t532, .string t533, .string t534] 53 (0, 0)) (by (with_reducible repeat (first | refine blk_drewN ?_ _ | refine blk_drew ?_ | refine blk_alloc ?_ _)); refine blk_put (cs := #[.int .i64 t531, .int .i64 t532, .string t533, .string (⟨#[]⟩ : ByteArray)]) ?_ 3 _ rfl; (with_reducible repeat (first | refine blk_drewN ?_ _ | refine blk_drew ?_ | refine blk_alloc ?_ _)); refine blk_put (cs := #[.int .i64 t531, .int .i64 t532, .string (⟨#[]⟩ : ByteArray), .string (⟨#[]⟩ : ByteArray)]) ?_ 2 _ rfl; (with_reducible repeat (first | refine blk_drewN ?_ _ | refine blk_drew ?_ | refine blk_alloc ?_ _)); refine blk_put (cs := #[.int .i64 t531, .int .i64 0, .string (⟨#[]⟩ : ByteArray), .string (⟨#[]⟩ : ByteArray)]) ?_ 1 _ rfl; (with_reducible repeat (first | refine blk_drewN ?_ _ | refine blk_drew ?_ | refine blk_alloc ?_ _)); refine blk_put (cs := #[.int .i64 0, .int .i64 0, .string (⟨#[]⟩ : ByteArray), .string (⟨#[]⟩ : ByteArray)]) ?_ 0 _ rfl; (with_reducible repeat (first | refine blk_drewN ?_ _ | refine blk_drew ?_ | refine blk_alloc ?_ _)); exact BK536.out) hg (Kd.R_away HO_6.out (fun _ hk => hk.2))); have n1_ := Aside0.mk (hb); have n2_ := Aside0.mk (ho); clear BK536; clear HB; clear HO_6; have BK536 := n0_; have HB := n1_; have HO539 := n2_; clear n0_ n1_ n2_; clear ho hb hg hat))
               go_roundg k1
               case measure => have := HK1.out; omega
               case rel => exact ⟨(y537), (wrap64 (x7_1 + 1)), (by first | rfl | (simp; done) | (simp [*]; done)), H', ⟨by have := HK1.out; omega⟩, ⟨by (with_reducible repeat (first | apply Kd.R_alloc | apply Kd.R_drewN | apply Kd.R_drew)); exact Kd.R_mono HO539.out (fun _ hk => trivial)⟩, ⟨by repeat (first | (with_reducible first | exact HB.out | apply below_alloc | apply pw_below_drewN | apply below_drew1 | refine below_set ?_ GE536.out) | exact HB.out)⟩⟩
             · rw [if_neg c8] at H
               exact absurd H (by simp)
           · rw [if_neg c7] at H
             have c7b0 : (t535 == 0) = false := beq_eq_false_iff_ne.mpr c7
             have c7b1 : (t535 != 0) = true := bne_iff_ne.mpr c7
             simp only [Option.some.injEq, Prod.mk.injEq] at H
             obtain ⟨rfl, rfl⟩ := H
             have p530 : 0 ≤ (x7_1 : Int) := of_decide_eq_true (by first | (with_reducible assumption) | assumption)
             have q530 : x7_1 < (l1.length : Int) := of_decide_eq_true (by first | (with_reducible assumption) | assumption)
             obtain ⟨ad530, e530, hx530_0, hx530_1, hx530_2, hx530_3⟩ := at_T53 HR1.out x7_1 p530 q530
             cases e530
             replace hx530_0 := (HB.out.cell (World.block_lt_of_cell? w _ hx530_0)).trans hx530_0
             replace hx530_1 := (HB.out.cell (World.block_lt_of_cell? w _ hx530_1)).trans hx530_1
             replace hx530_2 := (HB.out.cell (World.block_lt_of_cell? w _ hx530_2)).trans hx530_2
             replace hx530_3 := (HB.out.cell (World.block_lt_of_cell? w _ hx530_3)).trans hx530_3
             replace p530 := eq_true p530
             replace q530 := eq_true q530
             go_wp2_with (first | ((with_reducible refine look_callee (f := 97) rfl ?_); refine goesL_ (some 25) rfl rfl Tryz.func97 (by kernel_rfl) rfl #[.string a0, .agg #[.int .i64 ((rd_T53 l1 x7_1).f0), .int .i64 ((rd_T53 l1 x7_1).f1), .string ((rd_T53 l1 x7_1).f2), .string ((rd_T53 l1 x7_1).f3)]] rfl (by (try simp only [List.map_toArray, List.map_cons, List.map_nil]); first | done | rfl | (simp only [List.length_drop, List.length_take]; rfl)) ?_; (with_reducible refine (cartoucheref07_One.calls k1 a0 ((rd_T53 l1 x7_1).f0) ((rd_T53 l1 x7_1).f1) ((rd_T53 l1 x7_1).f2) ((rd_T53 l1 x7_1).f3) t531 t532 t533 t534 t535 _ A6.out).mono ?_); rintro e w13 ⟨rfl, hb⟩; refine ⟨_, rfl, ?_⟩; have n0_ := Aside0.mk (Kd.R_below (by (with_reducible repeat (first | apply Kd.R_alloc | apply Kd.R_drewN | apply Kd.R_drew)); exact HO_6.out) hb); have n1_ := Aside0.mk (below_step (by repeat (first | (with_reducible first | exact HB.out | apply below_alloc | apply pw_below_drewN | apply below_drew1) | exact HB.out)) hb); clear HO_6; clear HB; have HO_6 := n0_; have HB := n1_; clear n0_ n1_; (try clear hb); (try clear hb2); (try clear hk); (try clear hi)) | ((with_reducible refine gate_dst (N := 8) rfl ?_); refine box_event ?hg (N := 8) ?hd (cs := #[.int .i64 0, .int .i64 0, .string (⟨#[]⟩ : ByteArray), .string (⟨#[]⟩ : ByteArray)]) (t := 53) ?hr ?_; (case hd => rfl); (case hg => rfl); (case hr => first | (go_simp; done) | (go_simp; rfl)); intro gb536 hg w14 hbox hb; have n0_ := Aside0.mk (Kd.R_below (Kd.R_elderB (by (with_reducible repeat (first | apply Kd.R_alloc | apply Kd.R_drewN | apply Kd.R_drew)); exact HO_6.out) gb536 (Nat.le_of_eq hg.symm)) hb); have n1_ := Aside0.mk (below_step (by repeat (first | (with_reducible first | exact HB.out | apply below_alloc | apply pw_below_drewN | apply below_drew1) | exact HB.out)) hb); have n2_ := Aside0.mk (hbox); have n3_ := Aside0.mk ((by rw [hg]; exact (below_size (by repeat (first | (with_reducible first | exact HB.out | apply below_alloc | apply pw_below_drewN | apply below_drew1) | exact HB.out))) : w.heap.size ≤ gb536)); have n4_ := Aside0.mk ((by rw [hg]; exact (below_size (by repeat (first | (with_reducible first | exact HB.out | apply below_alloc | apply pw_below_drewN | apply below_drew1) | exact HB.out))) : w.heap.size ≤ gb536)); clear HO_6; clear HB; have HO_6 := n0_; have HB := n1_; have BK536 := n2_; have GW536 := n3_; have GE536 := n4_; clear n0_ n1_ n2_ n3_ n4_; clear hb hbox hg; have hcz15_0 : w14.cell? ⟨gb536, 0, none⟩ = some (.int .i64 0) := (blk_cell BK536.out 0).trans rfl; have hcz15_1 : w14.cell? ⟨gb536, 1, none⟩ = some (.int .i64 0) := (blk_cell BK536.out 1).trans rfl; have hcz15_2 : w14.cell? ⟨gb536, 2, none⟩ = some (.string (⟨#[]⟩ : ByteArray)) := (blk_cell BK536.out 2).trans rfl; have hcz15_3 : w14.cell? ⟨gb536, 3, none⟩ = some (.string (⟨#[]⟩ : ByteArray)) := (blk_cell BK536.out 3).trans rfl; have hfz15_0 := blk_frozen BK536.out 0; have hfz15_1 := blk_frozen BK536.out 1; have hfz15_2 := blk_frozen BK536.out 2; have hfz15_3 := blk_frozen BK536.out 3))
             go_ret2
             exact ⟨_, by first | rfl | (simp [errW_none, errW_some] <;> rfl) | (simp [*, errW_none, errW_some] <;> rfl), by first | exact Kd.R_nil _ _ _ _ _ | exact Kd.N_nil _ _ _ _ _ | exact Kd.V_nil _ _ _ _ _ | exact Kd.Q_nil _ _ _ _ _ | exact Kd.S_nil _ _ _ _ _, by repeat (first | (with_reducible first | exact HB.out | apply below_alloc | apply pw_below_drewN | apply below_drew1 | refine below_set ?_ GE536.out) | exact HB.out)⟩
         · rw [if_neg c5] at H
           exact absurd H (by simp)
       · rw [if_neg c4] at H
         have c4b0 : decide (x7_1 < (l1.length : Int)) = false := decide_eq_false c4
         clear c4
         simp only [Option.some.injEq, Prod.mk.injEq] at H
         obtain ⟨rfl, rfl⟩ := H
         go_wp2
         go_ret2
         exact ⟨_, by first | rfl | (simp [errW_none, errW_some] <;> rfl) | (simp [*, errW_none, errW_some] <;> rfl), by (with_reducible repeat (first | apply Kd.R_alloc | apply Kd.R_drewN | apply Kd.R_drew)); exact HO_6.out, by repeat (first | (with_reducible first | exact HB.out | apply below_alloc | apply pw_below_drewN | apply below_drew1) | exact HB.out)⟩
end Go.Proofs.YtjlpjpjodhkpdaaGreatDoor.Q
