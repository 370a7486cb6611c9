/- lean.Edge: do proofs show an edge? -/
import Derived.Test.YtjlpjpjodhkpdaaGreatDoorLn
set_option maxHeartbeats 16000000
set_option maxRecDepth 100000
set_option linter.unusedVariables false
set_option linter.unusedSimpArgs false
namespace Go.Proofs.YtjlpjpjodhkpdaaGreatDoor
open Go.RowKit Go.Proofs.YtjlpjpjodhkpdaaGreatDoor.Q Go.Proofs.YtjlpjpjodhkpdaaGreatDoorW.PrintWords
theorem ba_nil1 {a : ByteArray} (h : a.size = 0) : a = ⟨#[]⟩ := by
 cases a with | mk d => congr; exact Array.eq_empty_of_size_eq_zero h
theorem ba_list_nil1 (a : ByteArray) : (a.toList == []) = decide (a.size = 0) := by
 have h := ba_list a ⟨#[]⟩
 have e : (⟨#[]⟩ : ByteArray).toList = [] := by rw [ByteArray.toList_eq]
 rw [e] at h
 rw [h]
 by_cases h0 : a.size = 0
 · rw [ba_nil1 h0]; rfl
 · rw [decide_eq_false h0, decide_eq_false]
   rintro rfl
   exact h0 rfl
theorem ba_none1 {a : ByteArray} (h : a.size ≠ 0) : a.toList ≠ [] := fun e => by
 have := ba_list_nil1 a
 rw [e, decide_eq_false h] at this
 simp at this
def edgeIs (bx by' : Bool) (e0 e1 e2 : Int) (x y : Evn) (f t : Int) (bw : Bool) (wt m : Int) : Bool :=
 bx && (by' && (decide (e1 ≠ e2) && (decide (0 ≤ f) && (decide (0 ≤ t) && (decide (x.f1 = e1) && (decide (y.f1 = e2) && (decide (x.f2 = y.f2) &&
  (if e0 = 1 then decide (x.f0 = 3) && (decide (y.f0 = 3) && decide (f < t))
   else if e0 = 2 then decide (x.f0 = 3) && (decide (y.f0 = 2) && decide (x.f3 = y.f3))
   else decide (e0 = 3) && (decide (x.f0 = 2) && (decide (y.f0 = 3) && (decide (x.f3.size = 0) || (bw && (decide (wt ≠ e2) && (decide (0 ≤ m) && decide (m < t)))))))))))))))
def lnEdge (l : List Prf) (e : S32) : Bool :=
 let x := (foundP (isAt e.f3) l).f1
 let y := (foundP (isAt e.f4) l).f1
 edgeIs (isP (isAt e.f3) l) (isP (isAt e.f4) l) e.f0 e.f1 e.f2 x y (lnCommit l e.f1) (lnCommit l e.f2) (isP (isWr x.f2 x.f3) l) (foundP (isWr x.f2 x.f3) l).f1.f1 (lnCommit l (foundP (isWr x.f2 x.f3) l).f1.f1)
theorem int_ways (a b : Int) : (a = b ∧ (a == a) = true ∧ (a != a) = false) ∨ (a ≠ b ∧ (a == b) = false ∧ (b == a) = false ∧ b ≠ a ∧ (a != b) = true ∧ (b != a) = true) := by
 by_cases h : a = b
 · exact .inl ⟨h, by simp, by simp⟩
 · exact .inr ⟨h, beq_eq_false_iff_ne.mpr h, beq_eq_false_iff_ne.mpr (fun e => h e.symm), fun e => h e.symm, bne_iff_ne.mpr h, bne_iff_ne.mpr fun e => h e.symm⟩
theorem txt_ways (a b : ByteArray) : (a = b ∧ (a.toList == a.toList) = true ∧ (a.toList != a.toList) = false) ∨ (a ≠ b ∧ a.toList ≠ b.toList ∧ (a.toList == b.toList) = false ∧ b.toList ≠ a.toList ∧ (b.toList == a.toList) = false ∧ (a.toList != b.toList) = true ∧ (b.toList != a.toList) = true) := by
 by_cases h : a = b
 · exact .inl ⟨h, by simp, by simp⟩
 · exact .inr ⟨h, ba_list_ne h, by rw [ba_list]; exact decide_eq_false h, ba_list_ne (fun e => h e.symm), by rw [ba_list]; exact decide_eq_false (fun e => h e.symm), bne_iff_ne.mpr (ba_list_ne h), bne_iff_ne.mpr (ba_list_ne fun e => h e.symm)⟩
theorem lnEdge_any (A0 : Option Addr) (c0 : Nat) (l : List Prf) (e0 e1 e2 e3 e4 : Int) (w : World) (hr : Kd.C k55 w A0 l.length l) (hl : l.length ≤ 9223372036854775806) :
 Calls Tryz.prog 16 #[.slice A0 l.length c0, .agg #[.int .i64 e0, .int .i64 e1, .int .i64 e2, .int .i64 e3, .int .i64 e4]] w fun e w' => e = .returned (.bool (lnEdge l ⟨e0, e1, e2, e3, e4⟩)) ∧ Below w.heap.size w w' := by
 have HX := Lib.hid (fun u (hb : Below w.heap.size w u) => lnAt_any A0 c0 l e3 u (Kd.C_below hr hb) hl)
 have HY := Lib.hid (fun u (hb : Below w.heap.size w u) => lnAt_any A0 c0 l e4 u (Kd.C_below hr hb) hl)
 have HF := Lib.hid (fun u (hb : Below w.heap.size w u) => lnCommit_any A0 c0 l e1 u (Kd.C_below hr hb) hl)
 have HT := Lib.hid (fun u (hb : Below w.heap.size w u) => lnCommit_any A0 c0 l e2 u (Kd.C_below hr hb) hl)
 have HW := Lib.hid (fun u (hb : Below w.heap.size w u) z0 z1 z2 z3 => lnWriter_any A0 c0 l z0 z1 z2 z3 u (Kd.C_below hr hb) hl)
 have HM := Lib.hid (fun u (hb : Below w.heap.size w u) t => lnCommit_any A0 c0 l t u (Kd.C_below hr hb) hl)
 have hge : w.heap.size ≤ w.heap.size := Nat.le_refl _
 unfold lnEdge
 dsimp only
 generalize isP (isAt e3) l = bx at *
 generalize isP (isAt e4) l = by' at *
 generalize (foundP (isAt e3) l).f1 = x at *
 generalize (foundP (isAt e4) l).f1 = y at *
 generalize lnCommit l e1 = f at *
 generalize lnCommit l e2 = t at *
 obtain ⟨x0, x1, x2, x3⟩ := x
 obtain ⟨y0, y1, y2, y3⟩ := y
 dsimp only at *
 have HWx := Lib.hid (fun u (hb : Below w.heap.size w u) => HW.out u hb x0 x1 x2 x3)
 clear HW
 have HMx := Lib.hid (fun u (hb : Below w.heap.size w u) => HM.out u hb (foundP (isWr x2 x3) l).f1.f1)
 clear HM
 generalize lnCommit l (foundP (isWr x2 x3) l).f1.f1 = m at *
 generalize foundP (isWr x2 x3) l = z at *
 generalize isP (isWr x2 x3) l = bw at *
 obtain ⟨z0, ⟨z1, z2, z3, z4⟩, z5⟩ := z
 simp only [prfV] at HWx
 dsimp only at *
 obtain ⟨r, hr0⟩ : ∃ r, r = edgeIs bx by' e0 e1 e2 ⟨x0, x1, x2, x3⟩ ⟨y0, y1, y2, y3⟩ f t bw z2 m := ⟨_, rfl⟩
 rw [← hr0]
 have HR := Lib.hid hr0
 clear hr0
 have HB1 := Lib.hid (below_alloc (Below.refl w.heap.size w) (.cells #[.int .i64 e0, .int .i64 e1, .int .i64 e2, .int .i64 e3, .int .i64 e4] 32))
 have HE1 := Lib.hid (RowIs.new w 32 [.int .i64 e0, .int .i64 e1, .int .i64 e2, .int .i64 e3, .int .i64 e4])
 clear hr
 go_enter Tryz.func16, Tryz.ntmps16
 go_wp2_with (go_at_call 38; first
  | (with_reducible refine (HX.out _ HB1.out).mono ?_; rintro e w1 ⟨rfl, hb⟩; have hz1 := hb.size; have HB2 := Lib.hid (below_step HB1.out hb); have he2 := HE1.out.below hb; have c4 := he2.cell (i := 4) rfl; have HE2 := Lib.hid he2; have HXN := Lib.hid (RowIs.new w1 53 [.int .i64 x0, .int .i64 x1, .string x2, .string x3]); have hlt1 := he2.lt; have HB3 := Lib.hid (below_alloc HB2.out (.cells #[.int .i64 x0, .int .i64 x1, .string x2, .string x3] 53)); clear hb he2)
  | (with_reducible refine (HY.out _ HB3.out).mono ?_; rintro e w2 ⟨rfl, hb⟩; have HB4 := Lib.hid (below_step HB3.out hb); have he3 := (HE2.out.alloc (.cells #[.int .i64 x0, .int .i64 x1, .string x2, .string x3] 53)).below hb; have hx3 := HXN.out.below hb; have HE3 := Lib.hid he3; have HX3 := Lib.hid hx3; have HYN := Lib.hid (RowIs.new w2 53 [.int .i64 y0, .int .i64 y1, .string y2, .string y3]); have HB5 := Lib.hid (below_alloc HB4.out (.cells #[.int .i64 y0, .int .i64 y1, .string y2, .string y3] 53)); clear hb he3 hx3))
 clear hge
 try clear c4
 try clear hz1
 try clear hlt1
 have HE4 := Lib.hid (HE3.out.alloc (.cells #[.int .i64 y0, .int .i64 y1, .string y2, .string y3] 53)); have HX4 := Lib.hid (HX3.out.alloc (.cells #[.int .i64 y0, .int .i64 y1, .string y2, .string y3] 53))
 clear HX HY HB1 HB2 HB3 HB4 HE1 HE2 HE3 HX3 HXN
 obtain ⟨wy, hwy⟩ : ∃ wy, wy = w2.alloc (.cells #[.int .i64 y0, .int .i64 y1, .string y2, .string y3] 53) := ⟨_, rfl⟩
 rw [← hwy] at HE4 HX4 HYN HB5 ⊢
 clear hwy
 refine Fam.wp_region_fam [] (fun m u => Below wy.heap.size wy u) (by kernel_rfl) (by kernel_rfl) (Below.refl wy.heap.size wy).drew ?_
 repeat (first | (refine Fam.pure_ (by rfl) (by rfl) rfl (fun K hK => ?_); go_big_quiet_op; refine hK _ ?_; clear hK K) | (refine Fam.read_ (.int .i64 e1) (by rfl) (by rfl) (fun m' _ u hu => ?_) ?_; (· have hx := (HE4.out.below hu).cell (i := 1) rfl; clear hu; go_simp); simp only [Act.put, List.setIfInBounds_toArray, List.set_cons_zero, List.set_cons_succ]) | (refine Fam.read_ (.int .i64 e2) (by rfl) (by rfl) (fun m' _ u hu => ?_) ?_; (· have hx := (HE4.out.below hu).cell (i := 2) rfl; clear hu; go_simp); simp only [Act.put, List.setIfInBounds_toArray, List.set_cons_zero, List.set_cons_succ]) | (refine Fam.call_ (.int .i64 f) 39 ?_ (by rfl) (by rfl) (fun w => ?_) (fun m' _ u hu => ?_) ?_; rotate_left; (· go_simp; rfl); (· with_reducible refine (HF.out u (below_step HB5.out hu)).mono ?_; exact fun e u' ⟨he, hb⟩ => ⟨he, hu.trans (hb.mono hu.size)⟩); simp only [Act.put, List.setIfInBounds_toArray, List.set_cons_zero, List.set_cons_succ]) | (refine Fam.call_ (.int .i64 t) 39 ?_ (by rfl) (by rfl) (fun w => ?_) (fun m' _ u hu => ?_) ?_; rotate_left; (· go_simp; rfl); (· with_reducible refine (HT.out u (below_step HB5.out hu)).mono ?_; exact fun e u' ⟨he, hb⟩ => ⟨he, hu.trans (hb.mono hu.size)⟩); simp only [Act.put, List.setIfInBounds_toArray, List.set_cons_zero, List.set_cons_succ]))
 refine Fam.nil_ ?_
 intro w5 h5
 have HBw := Lib.hid (below_step HB5.out h5)
 have HE := Lib.hid (HE4.out.below h5); have HXX := Lib.hid (HX4.out.below h5); have HYY := Lib.hid (HYN.out.below h5)
 clear HE4 HX4 HYN HB5 HF HT h5
 have c0' := HE.out.cell (i := 0) rfl; have c1 := HE.out.cell (i := 1) rfl; have c2 := HE.out.cell (i := 2) rfl
 have p0 := HXX.out.cell (i := 0) rfl; have p1 := HXX.out.cell (i := 1) rfl; have p2 := HXX.out.cell (i := 2) rfl; have p3 := HXX.out.cell (i := 3) rfl
 have q0 := HYY.out.cell (i := 0) rfl; have q1 := HYY.out.cell (i := 1) rfl; have q2 := HYY.out.cell (i := 2) rfl; have q3 := HYY.out.cell (i := 3) rfl
 cases bx
 rotate_left
 cases by'
 rotate_left
 rcases int_ways e1 e2 with ⟨rfl, k8, k9⟩ | ⟨k1, k2, k3, k4, k5, k6⟩
 rotate_left
 by_cases o2 : f < 0
 have o2n : ¬ 0 ≤ f := by omega
 rotate_left
 have o2d : decide (f < 0) = false := decide_eq_false o2
 have o2n : 0 ≤ f := by omega
 by_cases o3 : t < 0
 have o3n : ¬ 0 ≤ t := by omega
 rotate_left
 have o3d : decide (t < 0) = false := decide_eq_false o3
 have o3n : 0 ≤ t := by omega
 rcases int_ways x1 e1 with ⟨rfl, a8, a9⟩ | ⟨a1, a2, a3, a4, a5, a6⟩
 rcases int_ways y1 e2 with ⟨rfl, b8, b9⟩ | ⟨b1, b2, b3, b4, b5, b6⟩
 rcases txt_ways x2 y2 with ⟨rfl, d8, d9⟩ | ⟨d1, d2, d3, d4, d5, d6, d7⟩
 have MAIN := True.intro
 all_goals first | (have := MAIN; skip) | (have hq := HR.out; simp [edgeIs, *] at hq; subst hq; go_wp2; go_ret; exact ⟨by first | rfl | (simp; done) | (simp [*]; done) | (simp; omega), HBw.out⟩; done)
 clear MAIN
 by_cases g1 : e0 = 1
 · subst g1
   rcases int_ways x0 3 with ⟨rfl, i8, i9⟩ | ⟨i1, i2, i3, i4, i5, i6⟩
   rcases int_ways y0 3 with ⟨rfl, j8, j9⟩ | ⟨j1, j2, j3, j4, j5, j6⟩
   by_cases g4 : f < t
   rotate_left
   have g4d : decide (f < t) = false := decide_eq_false g4
   all_goals (have hq := HR.out; simp [edgeIs, *] at hq; subst hq; go_wp2; go_ret; exact ⟨by first | rfl | (simp; done) | (simp [*]; done) | (simp; omega), HBw.out⟩; done)
 by_cases g5 : e0 = 2
 · subst g5
   rcases int_ways x0 3 with ⟨rfl, i8, i9⟩ | ⟨i1, i2, i3, i4, i5, i6⟩
   rcases int_ways y0 2 with ⟨rfl, j8, j9⟩ | ⟨j1, j2, j3, j4, j5, j6⟩
   rcases txt_ways x3 y3 with ⟨rfl, r8, r9⟩ | ⟨r1, r2, r3, r4, r5, r6, r7⟩
   all_goals (have hq := HR.out; simp [edgeIs, *] at hq; subst hq; go_wp2; go_ret; exact ⟨by first | rfl | (simp; done) | (simp [*]; done) | (simp; omega), HBw.out⟩; done)
 by_cases g6 : e0 = 3
 rotate_left
 · have hq := HR.out; simp [edgeIs, *] at hq; subst hq; go_wp2; go_ret; exact ⟨by first | rfl | (simp; done) | (simp [*]; done) | (simp; omega), HBw.out⟩; done
 subst g6
 rcases int_ways x0 2 with ⟨rfl, i8, i9⟩ | ⟨i1, i2, i3, i4, i5, i6⟩
 rcases int_ways y0 3 with ⟨rfl, j8, j9⟩ | ⟨j1, j2, j3, j4, j5, j6⟩
 have MAIN := True.intro
 all_goals first | (have := MAIN; skip) | (have hq := HR.out; simp [edgeIs, *] at hq; subst hq; go_wp2; go_ret; exact ⟨by first | rfl | (simp; done) | (simp [*]; done) | (simp; omega), HBw.out⟩; done)
 clear MAIN
 by_cases g7 : x3.size = 0
 have g8 := ba_nil1 g7
 subst g8
 rotate_left
 have g8 : (x3.toList == []) = false := by rw [ba_list_nil1]; exact decide_eq_false g7
 have g9 := ba_none1 g7
 cases bw
 rotate_left
 rcases int_ways z2 y1 with ⟨rfl, s8, s9⟩ | ⟨s1, s2, s3, s4, s5, s6⟩
 rotate_left
 by_cases h2 : m < 0
 have h2n : ¬ 0 ≤ m := by omega
 have h2d : decide (0 ≤ m) = false := decide_eq_false h2n
 rotate_left
 have h2n : 0 ≤ m := by omega
 by_cases h3 : m < t
 rotate_left
 have h3d : decide (m < t) = false := decide_eq_false h3
 all_goals (have hq := HR.out; simp [edgeIs, *] at hq; subst hq)
 all_goals go_wp2_with (first | (go_at_call 40; refine (HWx.out _ HBw.out).mono ?_; rintro e w6 ⟨⟨A5, n5, c5, rfl⟩, hb⟩; have HB6 := Lib.hid (below_step HBw.out hb); have HX6 := Lib.hid (HXX.out.below hb); have HE6 := Lib.hid (HE.out.below hb); clear hb) | (go_at_call 39; refine (HMx.out _ (below_alloc HB6.out _)).mono ?_; rintro e w7 ⟨rfl, hb⟩; have HB8 := Lib.hid (below_step (below_alloc HB6.out _) hb); have v3 := ((HX6.out.alloc _).below hb).cell (i := 3) rfl; have v2 := ((HE6.out.alloc _).below hb).cell (i := 2) rfl; have u2 := ((RowIs.new w6 55 _).below hb).cell (i := 2) rfl; clear hb))
 all_goals go_ret
 all_goals exact ⟨by first | rfl | (simp; done) | (simp [*]; done) | (simp; omega), HB8.out⟩
end Go.Proofs.YtjlpjpjodhkpdaaGreatDoor
