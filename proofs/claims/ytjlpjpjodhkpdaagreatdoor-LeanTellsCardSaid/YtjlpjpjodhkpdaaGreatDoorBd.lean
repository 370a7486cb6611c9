/- lean.Bad at any proofs: do proofs show what should not have been seen? -/
import Derived.Deep.QuietTactic
import Derived.BigQuiet
import Derived.Test.YtjlpjpjodhkpdaaGreatDoorEg
set_option maxHeartbeats 32000000
set_option maxRecDepth 100000
set_option linter.unusedVariables false
set_option linter.unusedSimpArgs false
namespace Go.Proofs.YtjlpjpjodhkpdaaGreatDoor
open Go.RowKit Go.Proofs.YtjlpjpjodhkpdaaGreatDoor.Q Go.Proofs.YtjlpjpjodhkpdaaGreatDoorW.PrintWords
theorem fam_off {P : Program} {ops : Array Oper} {C : Nat → World → Prop} {E : List Nat} {Q : Nat → Act → Prop} {k m : Nat} {o : Oper} {rest : List Oper} {a : Act} (hw : Region.wanted o (yielded ops a.tmps) = false) (hp : Fam.posOf E 0 k = none)
 (h : Fam.wpNat P ops C E Q (k + 1) m rest (a.put o.dst undef)) : Fam.wpNat P ops C E Q k m (o :: rest) a :=
 ⟨undef, .inr ⟨hw, rfl, hp⟩, by unfold Fam.stepM; rw [hp]; exact h⟩
def badIs (bx by' : Bool) (bk bi bj : Int) (x y : Evn) (cm : Int) (bw : Bool) (wi wt : Int) (eo : Bool) (ek : Int) : Bool :=
 bx && (by' && (decide (0 ≤ bi) && (decide (x.f0 = 2) && (decide (y.f0 = 3) && (decide (x.f2 = y.f2) && (decide (bi < cm) &&
  (if bk = 1 then decide (x.f3 = y.f3) && (!decide (x.f1 = y.f1) && (eo && decide (ek = 5)))
   else if bk = 2 then !decide (x.f1 = y.f1) && (!decide (x.f3 = y.f3) && (decide (x.f3.size ≠ 0) && (bw && (decide (wi < bj) && decide (wt = y.f1)))))
   else if bk = 3 then decide (x.f1 = y.f1) && (decide (bj < bi) && (!decide (x.f3 = y.f3) && (decide (x.f3.size = 0) || (bw && (decide (wt ≠ x.f1) || (decide (wi < bj) || decide (bi < wi)))))))
   else decide (bk = 4) && (decide (x.f1 = y.f1) && (decide (bi < bj) && decide (x.f3 = y.f3))))))))))
def lnBad (l : List Prf) (bk bi bj : Int) : Bool :=
 let x := (foundP (isAt bi) l).f1
 let y := (foundP (isAt bj) l).f1
 badIs (isP (isAt bi) l) (isP (isAt bj) l) bk bi bj x y (lnCommit l x.f1) (isP (isWr x.f2 x.f3) l) (foundP (isWr x.f2 x.f3) l).f0 (foundP (isWr x.f2 x.f3) l).f1.f1 (isP (isEnd y.f1) l) (foundP (isEnd y.f1) l).f1.f0
theorem lnBad_any (A0 : Option Addr) (c0 : Nat) (l : List Prf) (bk bi bj : Int) (w : World) (hr : Kd.C k55 w A0 l.length l) (hl : l.length ≤ 9223372036854775806) :
 Calls Tryz.prog 14 #[.slice A0 l.length c0, .agg #[.int .i64 bk, .int .i64 bi, .int .i64 bj]] w fun e w' => e = .returned (.bool (lnBad l bk bi bj)) ∧ Below w.heap.size w w' := by
 have HX := Lib.hid (fun u (hb : Below w.heap.size w u) => lnAt_any A0 c0 l bi u (Kd.C_below hr hb) hl)
 have HY := Lib.hid (fun u (hb : Below w.heap.size w u) => lnAt_any A0 c0 l bj u (Kd.C_below hr hb) hl)
 have HC0 := Lib.hid (fun u (hb : Below w.heap.size w u) t => lnCommit_any A0 c0 l t u (Kd.C_below hr hb) hl)
 have HW0 := Lib.hid (fun u (hb : Below w.heap.size w u) z0 z1 z2 z3 => lnWriter_any A0 c0 l z0 z1 z2 z3 u (Kd.C_below hr hb) hl)
 have HE0 := Lib.hid (fun u (hb : Below w.heap.size w u) t => lnEnd_any A0 c0 l t u (Kd.C_below hr hb) hl)
 unfold lnBad
 dsimp only
 generalize isP (isAt bi) l = bx at *
 generalize isP (isAt bj) l = by' at *
 generalize (foundP (isAt bi) l).f1 = x at *
 generalize (foundP (isAt bj) l).f1 = y at *
 obtain ⟨x0, x1, x2, x3⟩ := x
 obtain ⟨y0, y1, y2, y3⟩ := y
 dsimp only at *
 have HC := Lib.hid (fun u (hb : Below w.heap.size w u) => HC0.out u hb x1)
 have HWx := Lib.hid (fun u (hb : Below w.heap.size w u) a0 => HW0.out u hb a0 x1 x2 x3)
 have HEx := Lib.hid (fun u (hb : Below w.heap.size w u) => HE0.out u hb y1)
 clear HC0 HW0 HE0
 generalize lnCommit l x1 = cm at *
 generalize foundP (isWr x2 x3) l = z at *
 generalize isP (isWr x2 x3) l = bw at *
 generalize foundP (isEnd y1) l = v at *
 generalize isP (isEnd y1) l = eo at *
 obtain ⟨z0, ⟨z1, z2, z3, z4⟩, z5⟩ := z
 obtain ⟨v0, ⟨v1, v2, v3, v4⟩, v5⟩ := v
 simp only [prfV] at HWx HEx
 dsimp only at *
 obtain ⟨r, hr0⟩ : ∃ r, r = badIs bx by' bk bi bj ⟨x0, x1, x2, x3⟩ ⟨y0, y1, y2, y3⟩ cm bw z0 z2 eo v1 := ⟨_, rfl⟩
 rw [← hr0]
 have HR := Lib.hid hr0
 clear hr0
 have HB1 := Lib.hid (below_alloc (Below.refl w.heap.size w) (.cells #[.int .i64 bk, .int .i64 bi, .int .i64 bj] 24))
 have HD1 := Lib.hid (RowIs.new w 24 [.int .i64 bk, .int .i64 bi, .int .i64 bj])
 clear hr
 go_enter Tryz.func14, Tryz.ntmps14
 go_wp2_with (go_at_call 38; first | (with_reducible refine (HX.out _ HB1.out).mono ?_; rintro e w1 ⟨rfl, hb⟩; have HB2 := Lib.hid (below_step HB1.out hb); have hd2 := HD1.out.below hb; have c4 := hd2.cell (i := 2) rfl; have HD2 := Lib.hid hd2; have HXN := Lib.hid (RowIs.new w1 53 [.int .i64 x0, .int .i64 x1, .string x2, .string x3]); have hlt1 := hd2.lt; have HB3 := Lib.hid (below_alloc HB2.out (.cells #[.int .i64 x0, .int .i64 x1, .string x2, .string x3] 53)); clear hb hd2) | (with_reducible refine (HY.out _ HB3.out).mono ?_; rintro e w2 ⟨rfl, hb⟩; have HB4 := Lib.hid (below_step HB3.out hb); have hd3 := (HD2.out.alloc (.cells #[.int .i64 x0, .int .i64 x1, .string x2, .string x3] 53)).below hb; have hx3 := HXN.out.below hb; have HD3 := Lib.hid hd3; have HX3 := Lib.hid hx3; have HYN := Lib.hid (RowIs.new w2 53 [.int .i64 y0, .int .i64 y1, .string y2, .string y3]); have HB5 := Lib.hid (below_alloc HB4.out (.cells #[.int .i64 y0, .int .i64 y1, .string y2, .string y3] 53)); clear hb hd3 hx3))
 try clear c4
 try clear hlt1
 have HD4 := Lib.hid (HD3.out.alloc (.cells #[.int .i64 y0, .int .i64 y1, .string y2, .string y3] 53)); have HX4 := Lib.hid (HX3.out.alloc (.cells #[.int .i64 y0, .int .i64 y1, .string y2, .string y3] 53))
 clear HX HY HB1 HB2 HB3 HB4 HD1 HD2 HD3 HX3 HXN
 obtain ⟨wy, hwy⟩ : ∃ wy, wy = w2.alloc (.cells #[.int .i64 y0, .int .i64 y1, .string y2, .string y3] 53) := ⟨_, rfl⟩
 rw [← hwy] at HD4 HX4 HYN HB5 ⊢
 clear hwy
 cases bx
 rotate_left
 cases by'
 rotate_left
 by_cases k2 : bi < 0
 have k2d : decide (bi < 0) = true := decide_eq_true k2
 have k2' : ¬ 0 ≤ bi := by omega
 rotate_left
 have k2d : decide (bi < 0) = false := decide_eq_false k2
 have k2' : 0 ≤ bi := by omega
 rcases int_ways x0 2 with ⟨rfl, h8, h9⟩ | ⟨h1, h2, h3, h4, h5, h6⟩
 rcases int_ways y0 3 with ⟨rfl, i8, i9⟩ | ⟨i1, i2, i3, i4, i5, i6⟩
 rcases txt_ways x2 y2 with ⟨rfl, j8, j9⟩ | ⟨j1, j2, j3, j4, j5, j6, j7⟩
 by_cases k6 : cm ≤ bi
 have k6d : decide (cm ≤ bi) = true := decide_eq_true k6
 have k6' : ¬ bi < cm := by omega
 rotate_left
 have k6d : decide (cm ≤ bi) = false := decide_eq_false k6
 have k6' : bi < cm := by omega
 have MAIN := True.intro
 all_goals first | (have := MAIN; skip) | (have hq := HR.out; simp [badIs, *] at hq; subst hq)
 all_goals refine Fam.wp_region_fam [] (fun m u => Below wy.heap.size wy u) (by kernel_rfl) (by kernel_rfl) (Below.refl wy.heap.size wy).drew ?_
 all_goals repeat (first | (refine fam_off (by rfl) (by rfl) ?_; simp only [Act.put, List.setIfInBounds_toArray, List.set_cons_zero, List.set_cons_succ]) | (refine Fam.pure_ (by rfl) (by rfl) rfl (fun K hK => ?_); go_big_quiet_op; refine hK _ ?_; clear hK K) | (refine Fam.call_ (.int .i64 cm) 39 ?_ (by rfl) (by rfl) (fun w => ?_) (fun m' _ u hu => ?_) ?_; rotate_left; (· go_simp; rfl); (· exact (HC.out u (below_step HB5.out hu)).mono fun e u' ⟨he, hb⟩ => ⟨he, hu.trans (hb.mono hu.size)⟩); simp only [Act.put, List.setIfInBounds_toArray, List.set_cons_zero, List.set_cons_succ]) | (refine Fam.read_ (.int .i64 bi) (by rfl) (by rfl) (fun m' _ u hu => ?_) ?_; (· have hx := (HD4.out.below hu).cell (i := 1) rfl; clear hu; go_simp); simp only [Act.put, List.setIfInBounds_toArray, List.set_cons_zero, List.set_cons_succ]) | (refine Fam.read_ (.int .i64 x0) (by rfl) (by rfl) (fun m' _ u hu => ?_) ?_; (· have hx := (HX4.out.below hu).cell (i := 0) rfl; clear hu; go_simp); simp only [Act.put, List.setIfInBounds_toArray, List.set_cons_zero, List.set_cons_succ]) | (refine Fam.read_ (.int .i64 2) (by rfl) (by rfl) (fun m' _ u hu => ?_) ?_; (· have hx := (HX4.out.below hu).cell (i := 0) rfl; clear hu; go_simp); simp only [Act.put, List.setIfInBounds_toArray, List.set_cons_zero, List.set_cons_succ]) | (refine Fam.read_ (.int .i64 y0) (by rfl) (by rfl) (fun m' _ u hu => ?_) ?_; (· have hx := (HYN.out.below hu).cell (i := 0) rfl; clear hu; go_simp); simp only [Act.put, List.setIfInBounds_toArray, List.set_cons_zero, List.set_cons_succ]) | (refine Fam.read_ (.int .i64 3) (by rfl) (by rfl) (fun m' _ u hu => ?_) ?_; (· have hx := (HYN.out.below hu).cell (i := 0) rfl; clear hu; go_simp); simp only [Act.put, List.setIfInBounds_toArray, List.set_cons_zero, List.set_cons_succ]) | (refine Fam.read_ (.string x2) (by rfl) (by rfl) (fun m' _ u hu => ?_) ?_; (· have hx := (HX4.out.below hu).cell (i := 2) rfl; clear hu; go_simp); simp only [Act.put, List.setIfInBounds_toArray, List.set_cons_zero, List.set_cons_succ]) | (refine Fam.read_ (.string y2) (by rfl) (by rfl) (fun m' _ u hu => ?_) ?_; (· have hx := (HYN.out.below hu).cell (i := 2) rfl; clear hu; go_simp); simp only [Act.put, List.setIfInBounds_toArray, List.set_cons_zero, List.set_cons_succ]) | (refine Fam.read_ (.string x2) (by rfl) (by rfl) (fun m' _ u hu => ?_) ?_; (· have hx := (HYN.out.below hu).cell (i := 2) rfl; clear hu; go_simp); simp only [Act.put, List.setIfInBounds_toArray, List.set_cons_zero, List.set_cons_succ]) | (refine Fam.read_ (.int .i64 x1) (by rfl) (by rfl) (fun m' _ u hu => ?_) ?_; (· have hx := (HX4.out.below hu).cell (i := 1) rfl; clear hu; go_simp); simp only [Act.put, List.setIfInBounds_toArray, List.set_cons_zero, List.set_cons_succ]))
 all_goals refine Fam.nil_ ?_
 all_goals intro w5 h5
 all_goals first | (have := MAIN; skip) | (go_wp2; go_ret; exact ⟨by first | rfl | (simp; done) | (simp [*]; done) | (simp; omega), below_step HB5.out h5⟩; done)
 clear MAIN k2d k6d k2 k6
 have HBw := Lib.hid (below_step HB5.out h5)
 have HD := Lib.hid (HD4.out.below h5); have HXX := Lib.hid (HX4.out.below h5); have HYY := Lib.hid (HYN.out.below h5)
 clear HD4 HX4 HYN HB5 HC h5
 have p0 := HXX.out.cell (i := 0) rfl; have p1 := HXX.out.cell (i := 1) rfl; have p2 := HXX.out.cell (i := 2) rfl; have p3 := HXX.out.cell (i := 3) rfl
 go_wp2_with (go_at_call 40; refine (HWx.out _ HBw.out 2).mono ?_; rintro e w6 ⟨⟨A5, n5, c5, rfl⟩, hb⟩; have HB6 := Lib.hid (below_step HBw.out hb); have HX6 := Lib.hid (HXX.out.below hb); have HY6 := Lib.hid (HYY.out.below hb); have HD6 := Lib.hid (HD.out.below hb); clear hb)
 clear p0 p1 p2 p3
 obtain ⟨w7, hw7⟩ : ∃ w7, w7 = w6.alloc (.cells #[.int .i64 z0, .int .i64 z1, .int .i64 z2, .string z3, .string z4, .slice A5 n5 c5] 55) := ⟨_, rfl⟩
 have hz7 : RowIs w7 w6.heap.size 55 [.int .i64 z0, .int .i64 z1, .int .i64 z2, .string z3, .string z4, .slice A5 n5 c5] := by rw [hw7]; exact RowIs.new w6 55 [.int .i64 z0, .int .i64 z1, .int .i64 z2, .string z3, .string z4, .slice A5 n5 c5]
 have hb7 : Below w6.heap.size w6 w7 := by rw [hw7]; exact below_alloc (Below.refl _ _) _
 rw [← hw7]
 have HB7 := Lib.hid (below_step HB6.out hb7); have HX7 := HX6.out.below hb7; have HY7 := HY6.out.below hb7; have HD7 := HD6.out.below hb7
 have a1 := HX7.cell (i := 1) rfl; have a3 := HX7.cell (i := 3) rfl; have b1 := HY7.cell (i := 1) rfl; have b3 := HY7.cell (i := 3) rfl
 have d0 := HD7.cell (i := 0) rfl; have d1 := HD7.cell (i := 1) rfl; have d2 := HD7.cell (i := 2) rfl; have u0 := hz7.cell (i := 0) rfl; have u2 := hz7.cell (i := 2) rfl
 clear hw7 hz7 hb7 HX6 HY6 HD6 HX7 HY7 HD7 HXX HYY HD HBw HB6 HWx
 by_cases f1 : bk = 1
 · subst f1
   rcases txt_ways x3 y3 with ⟨rfl, t8, t9⟩ | ⟨t1, t2, t3, t4, t5, t6, t7⟩
   rcases int_ways x1 y1 with ⟨rfl, g8, g9⟩ | ⟨g1, g2, g3, g4, g5, g6⟩
   rotate_left
   cases eo
   rotate_left
   rcases int_ways v1 5 with ⟨rfl, e8, e9⟩ | ⟨e1, e2, e3, e4, e5, e6⟩
   all_goals (have hq := HR.out; simp [badIs, *] at hq; subst hq)
   all_goals go_quiet (fail)
   all_goals go_wp2_with (go_at_call 41; refine (HEx.out _ ?hbx).mono ?_; (case hbx => first | exact HB7.out | exact pw_below_drewN HB7.out _ | exact below_drew1 HB7.out); rintro e w8 ⟨⟨A6, n6, c6, rfl⟩, hb⟩; have HB8 := Lib.hid (below_step (by first | exact HB7.out | exact pw_below_drewN HB7.out _ | exact below_drew1 HB7.out) hb); clear hb)
   all_goals go_ret
   all_goals exact ⟨by first | rfl | (simp; done) | (simp [*]; done) | (simp; omega), below_alloc HB8.out _⟩
 by_cases f2 : bk = 2
 · subst f2
   clear f1
   rcases int_ways x1 y1 with ⟨rfl, g8, g9⟩ | ⟨g1, g2, g3, g4, g5, g6⟩
   rotate_left
   rcases txt_ways x3 y3 with ⟨rfl, t8, t9⟩ | ⟨t1, t2, t3, t4, t5, t6, t7⟩
   rotate_left
   by_cases g7 : x3.size = 0
   have g8 := ba_nil1 g7
   subst g8
   have z1' : (⟨#[]⟩ : ByteArray).toList = [] := by rw [ByteArray.toList_eq]
   have z2' : (([] : List UInt8) != []) = false := rfl
   have z3' : (([] : List UInt8) == []) = true := rfl
   rw [z1'] at t2 t3 t4 t5 t6 t7
   rotate_left
   have g8 : (x3.toList == []) = false := by rw [ba_list_nil1]; exact decide_eq_false g7
   have g9 := ba_none1 g7
   cases bw
   rotate_left
   by_cases p1 : z0 < bj
   rotate_left
   have p1d : decide (z0 < bj) = false := decide_eq_false p1
   rotate_right
   rcases int_ways z2 y1 with ⟨rfl, e8, e9⟩ | ⟨e1, e2, e3, e4, e5, e6⟩
   all_goals (have hq := HR.out; simp [badIs, *] at hq; subst hq)
   all_goals go_quiet (fail)
   all_goals go_wp2
   all_goals go_ret
   all_goals exact ⟨by first | rfl | (simp; done) | (simp [*]; done) | (simp; omega), by first | exact HB7.out | exact pw_below_drewN HB7.out _ | exact below_drew1 HB7.out⟩
 by_cases f3 : bk = 3
 · subst f3
   clear f1 f2
   rcases int_ways x1 y1 with ⟨rfl, g8, g9⟩ | ⟨g1, g2, g3, g4, g5, g6⟩
   by_cases p1 : bj < bi
   rotate_left
   have p1d : decide (bj < bi) = false := decide_eq_false p1
   rotate_right
   rcases txt_ways x3 y3 with ⟨rfl, t8, t9⟩ | ⟨t1, t2, t3, t4, t5, t6, t7⟩
   rotate_left
   by_cases g7 : x3.size = 0
   have g8 := ba_nil1 g7
   subst g8
   have z1' : (⟨#[]⟩ : ByteArray).toList = [] := by rw [ByteArray.toList_eq]
   have z2' : (([] : List UInt8) != []) = false := rfl
   have z3' : (([] : List UInt8) == []) = true := rfl
   rw [z1'] at t2 t3 t4 t5 t6 t7
   rotate_left
   have g8 : (x3.toList == []) = false := by rw [ba_list_nil1]; exact decide_eq_false g7
   have g9 := ba_none1 g7
   cases bw
   rotate_left
   rcases int_ways z2 x1 with ⟨rfl, e8, e9⟩ | ⟨e1, e2, e3, e4, e5, e6⟩
   by_cases p2 : z0 < bj
   rotate_left
   have p2d : decide (z0 < bj) = false := decide_eq_false p2
   rotate_right
   rotate_left
   have p2e : ¬ z0 < bj := p2
   by_cases p3 : bi < z0
   rotate_left
   have p3d : decide (bi < z0) = false := decide_eq_false p3
   rotate_right
   all_goals (have hq := HR.out; simp [badIs, *] at hq; subst hq)
   all_goals go_quiet (fail)
   all_goals go_wp2
   all_goals go_ret
   all_goals exact ⟨by first | rfl | (simp; done) | (simp [*]; done) | (simp; omega), by first | exact HB7.out | exact pw_below_drewN HB7.out _ | exact below_drew1 HB7.out⟩
 by_cases f4 : bk = 4
 · subst f4
   clear f1 f2 f3
   rcases int_ways x1 y1 with ⟨rfl, g8, g9⟩ | ⟨g1, g2, g3, g4, g5, g6⟩
   by_cases p1 : bi < bj
   rotate_left
   have p1d : decide (bi < bj) = false := decide_eq_false p1
   rotate_right
   rcases txt_ways x3 y3 with ⟨rfl, t8, t9⟩ | ⟨t1, t2, t3, t4, t5, t6, t7⟩
   all_goals (have hq := HR.out; simp [badIs, *] at hq; subst hq)
   all_goals go_quiet (fail)
   all_goals go_wp2
   all_goals go_ret
   all_goals exact ⟨by first | rfl | (simp; done) | (simp [*]; done) | (simp; omega), by first | exact HB7.out | exact pw_below_drewN HB7.out _ | exact below_drew1 HB7.out⟩
 have hq := HR.out; simp [badIs, *] at hq; subst hq
 go_quiet (fail)
 go_wp2
 go_ret
 exact ⟨by first | rfl | (simp; done) | (simp [*]; done) | (simp; omega), by first | exact HB7.out | exact pw_below_drewN HB7.out _ | exact below_drew1 HB7.out⟩
end Go.Proofs.YtjlpjpjodhkpdaaGreatDoor
