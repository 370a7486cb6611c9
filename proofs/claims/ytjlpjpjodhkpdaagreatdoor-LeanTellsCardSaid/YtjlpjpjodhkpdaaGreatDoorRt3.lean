/- cartoucheref15.Bad: do proofs show what should not have been seen? By the document. -/
import Derived.Test.YtjlpjpjodhkpdaaGreatDoorRt1
import Derived.Test.YtjlpjpjodhkpdaaGreatDoorBd
set_option maxHeartbeats 32000000
set_option maxRecDepth 100000
set_option linter.unusedVariables false
set_option linter.unusedSimpArgs false
namespace Go.Proofs.YtjlpjpjodhkpdaaGreatDoor
open Go.RowKit Go.Proofs.YtjlpjpjodhkpdaaGreatDoor.Q Go.Proofs.YtjlpjpjodhkpdaaGreatDoorW.PrintWords
theorem rBad_any (A0 : Option Addr) (c0 : Nat) (l : List Prf) (bk bi bj : Int) (w : World) (hr : Kd.C k55 w A0 l.length l) (hl : l.length ≤ 9223372036854775806) :
 Calls Tryz.prog 15 #[.slice A0 l.length c0, .agg #[.int .i64 bk, .int .i64 bi, .int .i64 bj]] w fun e w' => e = .returned (.bool (lnBad l bk bi bj)) ∧ Below w.heap.size w w' := by
 have HX := Lib.hid (fun u (hb : Below w.heap.size w u) => rAt_any A0 c0 l bi u (Kd.C_below hr hb) hl)
 have HY := Lib.hid (fun u (hb : Below w.heap.size w u) => rAt_any A0 c0 l bj u (Kd.C_below hr hb) hl)
 have HB1 := Lib.hid (below_alloc (Below.refl w.heap.size w) (.cells #[.int .i64 bk, .int .i64 bi, .int .i64 bj] 24))
 have HE := Lib.hid (RowIs.new w 24 [.int .i64 bk, .int .i64 bi, .int .i64 bj])
 have ea0 := True.intro; have ea1 := True.intro; have ea2 := True.intro
 have HRr := Lib.hid hr
 unfold lnBad
 dsimp only
 rcases idx_cases (isAt bi) l with ⟨h1, h2⟩ | ⟨i, hi, h1, h2, h3⟩
 · rw [h2]
   rw [h1] at HX
   obtain ⟨r4, h4⟩ : ∃ r4, firstFrom (atK (isAt bj) l) 0 l.length = r4 := ⟨_, rfl⟩
   rw [h4] at HY
   clear h1 h2 h4 hr
   go_enter Tryz.func15, Tryz.ntmps15
   go_wp2_with (go_at_call 42; refine Pause'.out ?_)
   constructor
   refine (HX.out _ HB1.out).mono ?_
   rintro e w2 ⟨rfl, hb⟩
   have HB2 := Lib.hid (below_step HB1.out hb)
   have he := HE.out.below hb
   clear HE ea0 ea1 ea2
   have HE := Lib.hid he
   have ea0 := he.cell (i := 0) rfl; have ea1 := he.cell (i := 1) rfl; have ea2 := he.cell (i := 2) rfl
   clear hb he
   go_wp2_with (go_at_call 42; refine Pause'.out ?_)
   constructor
   refine (HY.out _ HB2.out).mono ?_
   rintro e w3 ⟨rfl, hb⟩
   have HB3 := Lib.hid (below_step HB2.out hb)
   have he := HE.out.below hb
   clear HE ea0 ea1 ea2
   have HE := Lib.hid he
   have ea0 := he.cell (i := 0) rfl; have ea1 := he.cell (i := 1) rfl; have ea2 := he.cell (i := 2) rfl
   clear hb he
   go_wp2
   go_ret
   exact ⟨by simp [badIs], HB3.out⟩
 rcases idx_cases (isAt bj) l with ⟨k1, k2⟩ | ⟨k, hk, k1, k2, k3⟩
 · rw [k2]
   rw [h1] at HX
   rw [k1] at HY
   have g0 : decide ((i : Int) < 0) = false := decide_eq_false (by omega)
   clear h1 h2 h3 k1 k2 hr
   go_enter Tryz.func15, Tryz.ntmps15
   go_wp2_with (go_at_call 42; refine Pause'.out ?_)
   constructor
   refine (HX.out _ HB1.out).mono ?_
   rintro e w2 ⟨rfl, hb⟩
   have HB2 := Lib.hid (below_step HB1.out hb)
   have he := HE.out.below hb
   clear HE ea0 ea1 ea2
   have HE := Lib.hid he
   have ea0 := he.cell (i := 0) rfl; have ea1 := he.cell (i := 1) rfl; have ea2 := he.cell (i := 2) rfl
   clear hb he
   go_wp2_with (go_at_call 42; refine Pause'.out ?_)
   constructor
   refine (HY.out _ HB2.out).mono ?_
   rintro e w3 ⟨rfl, hb⟩
   have HB3 := Lib.hid (below_step HB2.out hb)
   have he := HE.out.below hb
   clear HE ea0 ea1 ea2
   have HE := Lib.hid he
   have ea0 := he.cell (i := 0) rfl; have ea1 := he.cell (i := 1) rfl; have ea2 := he.cell (i := 2) rfl
   clear hb he
   go_wp2
   go_ret
   exact ⟨by simp [badIs], HB3.out⟩
 rw [h2, h3, k2, k3]
 rw [h1] at HX
 rw [k1] at HY
 obtain ⟨ad, A5, c5, hA0, a0, a1, a2, a3, a4, a5, l5, C5⟩ := at_T55 hr (i : Int) (by omega) (by omega)
 obtain ⟨ad', B5, d5, hA1, b0, b1, b2, b3, b4, b5, m5, D5⟩ := at_T55 hr (k : Int) (by omega) (by omega)
 subst hA0
 obtain rfl : ad = ad' := Option.some.inj hA1
 simp only [Int.toNat_natCast] at a0 a1 a2 a3 a4 a5 b0 b1 b2 b3 b4 b5
 generalize rd_T55 l (i : Int) = p at *
 generalize rd_T55 l (k : Int) = q at *
 obtain ⟨p9, ⟨x0, x1, x2, x3⟩, p8⟩ := p
 obtain ⟨q9, ⟨y0, y1, y2, y3⟩, q8⟩ := q
 dsimp only at *
 have HC := Lib.hid (fun u (hb : Below w.heap.size w u) => rCommit_any (some ad) c0 l x1 u (Kd.C_below HRr.out hb) hl)
 have HWr := Lib.hid (fun u (hb : Below w.heap.size w u) => rWriter_any (some ad) c0 l x2 x3 u (Kd.C_below HRr.out hb) hl)
 have HEn := Lib.hid (fun u (hb : Below w.heap.size w u) => rEnds_any (some ad) c0 l y1 u (Kd.C_below HRr.out hb) hl)
 generalize lnCommit l x1 = cm at *
 obtain ⟨r, hr0⟩ : ∃ r, r = badIs true true bk bi bj ⟨x0, x1, x2, x3⟩ ⟨y0, y1, y2, y3⟩ cm (isP (isWr x2 x3) l) (foundP (isWr x2 x3) l).f0 (foundP (isWr x2 x3) l).f1.f1 (isP (isEnd y1) l) (foundP (isEnd y1) l).f1.f0 := ⟨_, rfl⟩
 rw [← hr0]
 have HR := Lib.hid hr0
 have g0 : decide ((i : Int) < 0) = false := decide_eq_false (by omega)
 have g0' : decide ((k : Int) < 0) = false := decide_eq_false (by omega)
 clear hr0 h1 h2 h3 k1 k2 k3 hr a0 a5 l5 C5 b0 b5 m5 D5 hA1
 go_enter Tryz.func15, Tryz.ntmps15
 go_wp2_with (go_at_call 42; refine Pause'.out ?_)
 constructor
 refine (HX.out _ HB1.out).mono ?_
 rintro e w2 ⟨rfl, hb⟩
 have HB2 := Lib.hid (below_step HB1.out hb)
 have he := HE.out.below hb
 clear HE ea0 ea1 ea2
 have HE := Lib.hid he
 have ea0 := he.cell (i := 0) rfl; have ea1 := he.cell (i := 1) rfl; have ea2 := he.cell (i := 2) rfl
 clear hb he
 go_wp2_with (go_at_call 42; refine Pause'.out ?_)
 constructor
 refine (HY.out _ HB2.out).mono ?_
 rintro e w3 ⟨rfl, hb⟩
 have HB3 := Lib.hid (below_step HB2.out hb)
 have he := HE.out.below hb
 clear HE ea0 ea1 ea2
 have HE := Lib.hid he
 have ea0 := he.cell (i := 0) rfl; have ea1 := he.cell (i := 1) rfl; have ea2 := he.cell (i := 2) rfl
 clear hb he
 replace a1 := pw_cell_below HB3.out a1; replace a2 := pw_cell_below HB3.out a2; replace a3 := pw_cell_below HB3.out a3; replace a4 := pw_cell_below HB3.out a4
 replace b1 := pw_cell_below HB3.out b1; replace b2 := pw_cell_below HB3.out b2; replace b3 := pw_cell_below HB3.out b3; replace b4 := pw_cell_below HB3.out b4
 have n0 := World.block_lt_of_cell? _ _ ea0; dsimp only at n0; have n1 := World.block_lt_of_cell? _ _ a1; have n2 := World.block_lt_of_cell? _ _ b1
 clear HX HY HB1 HB2
 by_cases hbi : bi < 0
 · have hbi' : ¬ 0 ≤ bi := by omega
   go_wp2
   go_ret
   exact ⟨by rw [HR.out]; simp [badIs, *, show ¬ 0 ≤ bi by omega], by first | exact HB3.out | exact pw_below_drewN HB3.out _ | exact below_alloc (below_alloc HB3.out _) _⟩
 have hbi' : 0 ≤ bi := by omega
 have hbd : decide (bi < 0) = false := decide_eq_false hbi
 go_wp2
 clear a1 a2 a3 a4 b1 b2 b3 b4 n0 n1 n2 ea0 ea1 ea2 hbd hbi
 have hxx := (RowIs.new w3 53 [.int .i64 x0, .int .i64 x1, .string x2, .string x3]).alloc (.cells #[.int .i64 y0, .int .i64 y1, .string y2, .string y3] 53)
 have hyy := RowIs.new (w3.alloc (.cells #[.int .i64 x0, .int .i64 x1, .string x2, .string x3] 53)) 53 [.int .i64 y0, .int .i64 y1, .string y2, .string y3]
 have hee := (HE.out.alloc (.cells #[.int .i64 x0, .int .i64 x1, .string x2, .string x3] 53)).alloc (.cells #[.int .i64 y0, .int .i64 y1, .string y2, .string y3] 53)
 have hby := below_alloc (below_alloc HB3.out (.cells #[.int .i64 x0, .int .i64 x1, .string x2, .string x3] 53)) (.cells #[.int .i64 y0, .int .i64 y1, .string y2, .string y3] 53)
 rw [World.size_alloc] at hyy
 obtain ⟨wy, hwy⟩ : ∃ wy, wy = (w3.alloc (.cells #[.int .i64 x0, .int .i64 x1, .string x2, .string x3] 53)).alloc (.cells #[.int .i64 y0, .int .i64 y1, .string y2, .string y3] 53) := ⟨_, rfl⟩
 rw [← hwy] at hxx hyy hee hby ⊢
 clear HE HB3 hwy
 have HXX := Lib.hid hxx; have HYY := Lib.hid hyy; have HE := Lib.hid hee; have HBy := Lib.hid hby
 have p0 := hxx.cell (i := 0) rfl; have p1 := hxx.cell (i := 1) rfl; have p2 := hxx.cell (i := 2) rfl; have p3 := hxx.cell (i := 3) rfl; have q0 := hyy.cell (i := 0) rfl; have q1 := hyy.cell (i := 1) rfl; have q2 := hyy.cell (i := 2) rfl; have q3 := hyy.cell (i := 3) rfl; have ea0 := hee.cell (i := 0) rfl; have ea1 := hee.cell (i := 1) rfl; have ea2 := hee.cell (i := 2) rfl
 clear hxx hyy hee hby
 clear p0 p1 p2 p3 q0 q1 q2 q3 ea0 ea1 ea2
 rcases int_ways x0 2 with ⟨rfl, h8, h9⟩ | ⟨h1, h2, h3, h4, h5, h6⟩
 rcases int_ways y0 3 with ⟨rfl, i8, i9⟩ | ⟨i1, i2, i3, i4, i5, i6⟩
 rcases txt_ways x2 y2 with ⟨rfl, j8, j9⟩ | ⟨j1, j2, j3, j4, j5, j6, j7⟩
 by_cases hcm : cm ≤ bi
 have hcd : decide (cm ≤ bi) = true := decide_eq_true hcm
 have hcm' : ¬ bi < cm := by omega
 rotate_left
 have hcd : decide (cm ≤ bi) = false := decide_eq_false hcm
 have hcm' : bi < cm := by omega
 have MAIN := True.intro
 all_goals first | (have := MAIN; skip) | (have hq := HR.out; simp [badIs, *] at hq; subst hq)
 all_goals refine Fam.wp_region_fam [] (fun m u => Below wy.heap.size wy u) (by kernel_rfl) (by kernel_rfl) (Below.refl wy.heap.size wy).drew ?_
 all_goals repeat (first | (refine fam_off (by rfl) (by rfl) ?_; simp only [Act.put, List.setIfInBounds_toArray, List.set_cons_zero, List.set_cons_succ]) | (refine Fam.pure_ (by rfl) (by rfl) rfl (fun K hK => ?_); go_big_quiet_op; refine hK _ ?_; clear hK K) | (refine Fam.call_ (.int .i64 cm) 43 ?_ (by rfl) (by rfl) (fun w => ?_) (fun m' _ u hu => ?_) ?_; rotate_left; (· go_simp; rfl); (· exact (HC.out u (below_step HBy.out hu)).mono fun e u' ⟨he, hb⟩ => ⟨he, hu.trans (hb.mono hu.size)⟩); simp only [Act.put, List.setIfInBounds_toArray, List.set_cons_zero, List.set_cons_succ]) | (refine Fam.read_ (.int .i64 x0) (by rfl) (by rfl) (fun m' _ u hu => ?_) ?_; (· have hx := (HXX.out.below hu).cell (i := 0) rfl; clear hu; go_simp); simp only [Act.put, List.setIfInBounds_toArray, List.set_cons_zero, List.set_cons_succ]) | (refine Fam.read_ (.int .i64 2) (by rfl) (by rfl) (fun m' _ u hu => ?_) ?_; (· have hx := (HXX.out.below hu).cell (i := 0) rfl; clear hu; go_simp); simp only [Act.put, List.setIfInBounds_toArray, List.set_cons_zero, List.set_cons_succ]) | (refine Fam.read_ (.int .i64 y0) (by rfl) (by rfl) (fun m' _ u hu => ?_) ?_; (· have hx := (HYY.out.below hu).cell (i := 0) rfl; clear hu; go_simp); simp only [Act.put, List.setIfInBounds_toArray, List.set_cons_zero, List.set_cons_succ]) | (refine Fam.read_ (.int .i64 3) (by rfl) (by rfl) (fun m' _ u hu => ?_) ?_; (· have hx := (HYY.out.below hu).cell (i := 0) rfl; clear hu; go_simp); simp only [Act.put, List.setIfInBounds_toArray, List.set_cons_zero, List.set_cons_succ]) | (refine Fam.read_ (.string x2) (by rfl) (by rfl) (fun m' _ u hu => ?_) ?_; (· have hx := (HXX.out.below hu).cell (i := 2) rfl; clear hu; go_simp); simp only [Act.put, List.setIfInBounds_toArray, List.set_cons_zero, List.set_cons_succ]) | (refine Fam.read_ (.string y2) (by rfl) (by rfl) (fun m' _ u hu => ?_) ?_; (· have hx := (HYY.out.below hu).cell (i := 2) rfl; clear hu; go_simp); simp only [Act.put, List.setIfInBounds_toArray, List.set_cons_zero, List.set_cons_succ]) | (refine Fam.read_ (.string x2) (by rfl) (by rfl) (fun m' _ u hu => ?_) ?_; (· have hx := (HYY.out.below hu).cell (i := 2) rfl; clear hu; go_simp); simp only [Act.put, List.setIfInBounds_toArray, List.set_cons_zero, List.set_cons_succ]) | (refine Fam.read_ (.int .i64 x1) (by rfl) (by rfl) (fun m' _ u hu => ?_) ?_; (· have hx := (HXX.out.below hu).cell (i := 1) rfl; clear hu; go_simp); simp only [Act.put, List.setIfInBounds_toArray, List.set_cons_zero, List.set_cons_succ]) | (refine Fam.read_ (.int .i64 bi) (by rfl) (by rfl) (fun m' _ u hu => ?_) ?_; (· have hx := (HE.out.below hu).cell (i := 1) rfl; clear hu; go_simp); simp only [Act.put, List.setIfInBounds_toArray, List.set_cons_zero, List.set_cons_succ]))
 all_goals refine Fam.nil_ ?_
 all_goals intro w5 h5
 all_goals first | (have := MAIN; skip) | (go_wp2; go_ret; exact ⟨by first | rfl | (simp; done) | (simp [*]; done) | (simp; omega), below_step HBy.out h5⟩; done)
 clear MAIN h8 h9 i8 i9 j8 j9
 have HB5 := Lib.hid (below_step HBy.out h5)
 have hxx := HXX.out.below h5; have hyy := HYY.out.below h5; have hee := HE.out.below h5
 clear HXX HYY HE HBy HC
 have HXX := Lib.hid hxx; have HYY := Lib.hid hyy; have HE := Lib.hid hee
 have p0 := hxx.cell (i := 0) rfl; have p1 := hxx.cell (i := 1) rfl; have p2 := hxx.cell (i := 2) rfl; have p3 := hxx.cell (i := 3) rfl; have q0 := hyy.cell (i := 0) rfl; have q1 := hyy.cell (i := 1) rfl; have q2 := hyy.cell (i := 2) rfl; have q3 := hyy.cell (i := 3) rfl; have ea0 := hee.cell (i := 0) rfl; have ea1 := hee.cell (i := 1) rfl; have ea2 := hee.cell (i := 2) rfl
 clear hxx hyy hee h5 hcd hcm
 obtain ⟨wv, hwv⟩ : ∃ wv, firstFrom (atK (isWr x2 x3) l) 0 l.length = wv := ⟨_, rfl⟩
 rw [hwv] at HWr
 go_wp2_with (go_at_call 44; refine Pause'.out ?_)
 constructor
 refine (HWr.out _ HB5.out).mono ?_
 rintro e w6 ⟨rfl, hb⟩
 have HB6 := Lib.hid (below_step HB5.out hb)
 have hxx := HXX.out.below hb; have hyy := HYY.out.below hb; have hee := HE.out.below hb
 clear HXX HYY HE p0 p1 p2 p3 q0 q1 q2 q3 ea0 ea1 ea2
 have HXX := Lib.hid hxx; have HYY := Lib.hid hyy; have HE := Lib.hid hee
 have p0 := hxx.cell (i := 0) rfl; have p1 := hxx.cell (i := 1) rfl; have p2 := hxx.cell (i := 2) rfl; have p3 := hxx.cell (i := 3) rfl; have q0 := hyy.cell (i := 0) rfl; have q1 := hyy.cell (i := 1) rfl; have q2 := hyy.cell (i := 2) rfl; have q3 := hyy.cell (i := 3) rfl; have ea0 := hee.cell (i := 0) rfl; have ea1 := hee.cell (i := 1) rfl; have ea2 := hee.cell (i := 2) rfl
 clear hxx hyy hee hb
 clear HWr HB5
 by_cases f1 : bk = 1
 · subst f1
   rcases idx_cases (isEnd y1) l with ⟨u1, u2⟩ | ⟨ui, hui, u1, u2, u3⟩
   · rw [u1] at HEn
     rw [u2] at HR
     obtain rfl : r = false := HR.out.trans (by simp [badIs])
     go_wp2_with (go_at_call 45; refine Pause'.out ?_)
     constructor
     refine (HEn.out _ HB6.out).mono ?_
     rintro e w7 ⟨rfl, hb⟩
     have HB7 := Lib.hid (below_step HB6.out hb)
     have hxx := HXX.out.below hb; have hyy := HYY.out.below hb; have hee := HE.out.below hb
     clear HXX HYY HE p0 p1 p2 p3 q0 q1 q2 q3 ea0 ea1 ea2
     have HXX := Lib.hid hxx; have HYY := Lib.hid hyy; have HE := Lib.hid hee
     have p0 := hxx.cell (i := 0) rfl; have p1 := hxx.cell (i := 1) rfl; have p2 := hxx.cell (i := 2) rfl; have p3 := hxx.cell (i := 3) rfl; have q0 := hyy.cell (i := 0) rfl; have q1 := hyy.cell (i := 1) rfl; have q2 := hyy.cell (i := 2) rfl; have q3 := hyy.cell (i := 3) rfl; have ea0 := hee.cell (i := 0) rfl; have ea1 := hee.cell (i := 1) rfl; have ea2 := hee.cell (i := 2) rfl
     clear hxx hyy hee hb
     clear u1 u2 HR
     rcases txt_ways x3 y3 with ⟨rfl, k8, k9⟩ | ⟨h1, h2, h3, h4, h5, h13, h14⟩ <;> rcases int_ways x1 y1 with ⟨rfl, i8, i9⟩ | ⟨h6, h7, h8, h9, h10, h11⟩
     all_goals go_wp2
     all_goals go_ret
     all_goals exact ⟨by first | rfl | (simp; done) | (simp [*]; done) | (simp; omega), HB7.out⟩
   rw [u1] at HEn
   rw [u2, u3] at HR
   go_wp2_with (go_at_call 45; refine Pause'.out ?_)
   constructor
   refine (HEn.out _ HB6.out).mono ?_
   rintro e w7 ⟨rfl, hb⟩
   have HB7 := Lib.hid (below_step HB6.out hb)
   have hxx := HXX.out.below hb; have hyy := HYY.out.below hb; have hee := HE.out.below hb
   clear HXX HYY HE p0 p1 p2 p3 q0 q1 q2 q3 ea0 ea1 ea2
   have HXX := Lib.hid hxx; have HYY := Lib.hid hyy; have HE := Lib.hid hee
   have p0 := hxx.cell (i := 0) rfl; have p1 := hxx.cell (i := 1) rfl; have p2 := hxx.cell (i := 2) rfl; have p3 := hxx.cell (i := 3) rfl; have q0 := hyy.cell (i := 0) rfl; have q1 := hyy.cell (i := 1) rfl; have q2 := hyy.cell (i := 2) rfl; have q3 := hyy.cell (i := 3) rfl; have ea0 := hee.cell (i := 0) rfl; have ea1 := hee.cell (i := 1) rfl; have ea2 := hee.cell (i := 2) rfl
   clear hxx hyy hee hb
   obtain ⟨ad', A5, c5, hA3, d0, d1, d2, d3, d4, d5, l5, C5⟩ := at_T55 (Kd.C_below HRr.out HB7.out) (ui : Int) (by omega) (by omega)
   obtain rfl : ad = ad' := Option.some.inj hA3
   simp only [Int.toNat_natCast] at d1
   clear d0 d2 d3 d4 d5 l5 C5 hA3 u1 u2 u3
   generalize (rd_T55 l (ui : Int)).f1.f0 = z0 at *
   have s2 : decide ((0 : Int) ≤ (ui : Int)) = true := decide_eq_true (by omega)
   rcases txt_ways x3 y3 with ⟨rfl, k8, k9⟩ | ⟨h1, h2, h3, h4, h5, h13, h14⟩
   rcases int_ways x1 y1 with ⟨rfl, i8, i9⟩ | ⟨h6, h7, h8, h9, h10, h11⟩
   rotate_left
   rcases int_ways z0 5 with ⟨rfl, j8, j9⟩ | ⟨h1, h2, h3, h4, h5, h12⟩
   all_goals (have hq := HR.out; simp [badIs, *] at hq; subst hq)
   all_goals go_wp2
   all_goals go_ret
   all_goals exact ⟨by first | rfl | (simp; done) | (simp [*]; done) | (simp; omega), HB7.out⟩
 by_cases f2 : bk = 2
 · subst f2
   clear HEn f1
   rcases int_ways x1 y1 with ⟨rfl, k8, k9⟩ | ⟨h6, h7, h8, h9, h10, h11⟩
   rotate_left
   rcases txt_ways x3 y3 with ⟨rfl, k8, k9⟩ | ⟨h1, h2, h3, h4, h5, h13, h14⟩
   rotate_left
   by_cases g7 : x3.size = 0
   have g8 := ba_nil1 g7
   subst g8
   have z1 : (⟨#[]⟩ : ByteArray).toList = [] := by rw [ByteArray.toList_eq]
   have z2 : (([] : List UInt8) != []) = false := rfl
   have z3 : (([] : List UInt8) == []) = true := rfl
   rw [z1] at h2 h3 h4 h5 h13 h14
   rotate_left
   have g8 : (x3.toList == []) = false := by rw [ba_list_nil1]; exact decide_eq_false g7
   have g9 := ba_none1 g7
   have g10 : (x3.toList != []) = true := bne_iff_ne.mpr g9
   rcases idx_cases (isWr x2 x3) l with ⟨u1, u2⟩ | ⟨wi, hwi, u1, u2, u3⟩
   rw [u2] at HR
   obtain rfl : wv = -1 := hwv.symm.trans u1
   clear u1 u2 hwv
   rotate_left
   rw [u2, u3] at HR
   obtain rfl : wv = (wi : Int) := hwv.symm.trans u1
   obtain ⟨ad', A5, c5, hA3, d0, d1, d2, d3, d4, d5, l5, C5⟩ := at_T55 (Kd.C_below HRr.out HB6.out) (wi : Int) (by omega) (by omega)
   obtain rfl : ad = ad' := Option.some.inj hA3
   simp only [Int.toNat_natCast] at d0 d2
   clear d1 d3 d4 d5 l5 C5 hA3 u1 u2 u3 hwv
   generalize (rd_T55 l (wi : Int)).f0 = z9 at *
   generalize (rd_T55 l (wi : Int)).f1.f1 = z1 at *
   have s1 : decide ((wi : Int) < 0) = false := decide_eq_false (by omega)
   have s2 : decide ((0 : Int) ≤ (wi : Int)) = true := decide_eq_true (by omega)
   by_cases g1 : z9 < bj
   rotate_left
   have g1d : decide (z9 < bj) = false := decide_eq_false g1
   rotate_right
   rcases int_ways z1 y1 with ⟨rfl, k8, k9⟩ | ⟨j6, j7, j8, j9, j10, j11⟩
   all_goals (have hq := HR.out; simp [badIs, *] at hq; subst hq)
   all_goals clear hcm' hbi' g0 g0'
   all_goals try clear hwv
   all_goals go_wp2
   all_goals refine Fam.wp_region_fam [] (fun m u => Below w6.heap.size w6 u) (by kernel_rfl) (by kernel_rfl) (Below.refl w6.heap.size w6).drew ?_
   all_goals repeat (first | (refine fam_off (by rfl) (by rfl) ?_; simp only [Act.put, List.setIfInBounds_toArray, List.set_cons_zero, List.set_cons_succ]) | (refine Fam.pure_ (by rfl) (by rfl) rfl (fun K hK => ?_); go_big_quiet_op; refine hK _ ?_; clear hK K) | (refine Fam.read_ (.int .i64 y1) (by rfl) (by rfl) (fun m' _ u hu => ?_) ?_; (· have hx := (HYY.out.below hu).cell (i := 1) rfl; clear hu; go_simp); simp only [Act.put, List.setIfInBounds_toArray, List.set_cons_zero, List.set_cons_succ]) | (refine Fam.read_ (.int .i64 x1) (by rfl) (by rfl) (fun m' _ u hu => ?_) ?_; (· have hx := (HYY.out.below hu).cell (i := 1) rfl; clear hu; go_simp); simp only [Act.put, List.setIfInBounds_toArray, List.set_cons_zero, List.set_cons_succ]) | (refine Fam.read_ (.int .i64 z1) (by rfl) (by rfl) (fun m' _ u hu => ?_) ?_; (· have hx := (HYY.out.below hu).cell (i := 1) rfl; clear hu; go_simp); simp only [Act.put, List.setIfInBounds_toArray, List.set_cons_zero, List.set_cons_succ]) | (refine Fam.read_ (.int .i64 x1) (by rfl) (by rfl) (fun m' _ u hu => ?_) ?_; (· have hx := (HXX.out.below hu).cell (i := 1) rfl; clear hu; go_simp); simp only [Act.put, List.setIfInBounds_toArray, List.set_cons_zero, List.set_cons_succ]) | (refine Fam.read_ (.int .i64 z1) (by rfl) (by rfl) (fun m' _ u hu => ?_) ?_; (· have hx := (HXX.out.below hu).cell (i := 1) rfl; clear hu; go_simp); simp only [Act.put, List.setIfInBounds_toArray, List.set_cons_zero, List.set_cons_succ]) | (refine Fam.read_ (.string y3) (by rfl) (by rfl) (fun m' _ u hu => ?_) ?_; (· have hx := (HYY.out.below hu).cell (i := 3) rfl; clear hu; go_simp); simp only [Act.put, List.setIfInBounds_toArray, List.set_cons_zero, List.set_cons_succ]) | (refine Fam.read_ (.string x3) (by rfl) (by rfl) (fun m' _ u hu => ?_) ?_; (· have hx := (HYY.out.below hu).cell (i := 3) rfl; clear hu; go_simp); simp only [Act.put, List.setIfInBounds_toArray, List.set_cons_zero, List.set_cons_succ]) | (refine Fam.read_ (.string ⟨#[]⟩) (by rfl) (by rfl) (fun m' _ u hu => ?_) ?_; (· have hx := (HYY.out.below hu).cell (i := 3) rfl; clear hu; go_simp); simp only [Act.put, List.setIfInBounds_toArray, List.set_cons_zero, List.set_cons_succ]) | (refine Fam.read_ (.string x3) (by rfl) (by rfl) (fun m' _ u hu => ?_) ?_; (· have hx := (HXX.out.below hu).cell (i := 3) rfl; clear hu; go_simp); simp only [Act.put, List.setIfInBounds_toArray, List.set_cons_zero, List.set_cons_succ]) | (refine Fam.read_ (.string ⟨#[]⟩) (by rfl) (by rfl) (fun m' _ u hu => ?_) ?_; (· have hx := (HXX.out.below hu).cell (i := 3) rfl; clear hu; go_simp); simp only [Act.put, List.setIfInBounds_toArray, List.set_cons_zero, List.set_cons_succ]) | (refine Fam.read_ (.int .i64 bj) (by rfl) (by rfl) (fun m' _ u hu => ?_) ?_; (· have hx := (HE.out.below hu).cell (i := 2) rfl; clear hu; go_simp); simp only [Act.put, List.setIfInBounds_toArray, List.set_cons_zero, List.set_cons_succ]) | (refine Fam.read_ (.int .i64 bi) (by rfl) (by rfl) (fun m' _ u hu => ?_) ?_; (· have hx := (HE.out.below hu).cell (i := 1) rfl; clear hu; go_simp); simp only [Act.put, List.setIfInBounds_toArray, List.set_cons_zero, List.set_cons_succ]) | (refine Fam.read_ (.int .i64 z9) (by rfl) (by rfl) (fun m' _ u hu => ?_) ?_; (· have hx := pw_cell_below hu d0; clear hu; go_simp); simp only [Act.put, List.setIfInBounds_toArray, List.set_cons_zero, List.set_cons_succ]) | (refine Fam.read_ (.int .i64 z1) (by rfl) (by rfl) (fun m' _ u hu => ?_) ?_; (· have hx := pw_cell_below hu d2; clear hu; go_simp); simp only [Act.put, List.setIfInBounds_toArray, List.set_cons_zero, List.set_cons_succ]))
   all_goals refine Fam.nil_ ?_
   all_goals intro w7 h7
   all_goals go_wp2
   all_goals go_ret
   all_goals exact ⟨by first | rfl | (simp; done) | (simp [*]; done) | (simp; omega), below_step HB6.out h7⟩
 by_cases f3 : bk = 3
 · subst f3
   clear HEn f1 f2
   rcases int_ways x1 y1 with ⟨rfl, k8, k9⟩ | ⟨h6, h7, h8, h9, h10, h11⟩
   by_cases p1 : bj < bi
   rotate_left
   have p1d : decide (bj < bi) = false := decide_eq_false p1
   rotate_right
   rcases txt_ways x3 y3 with ⟨rfl, l8, l9⟩ | ⟨h1, h2, h3, h4, h5, h13, h14⟩
   rotate_left
   by_cases g7 : x3.size = 0
   have g8 := ba_nil1 g7
   subst g8
   have z1 : (⟨#[]⟩ : ByteArray).toList = [] := by rw [ByteArray.toList_eq]
   have z2 : (([] : List UInt8) != []) = false := rfl
   have z3 : (([] : List UInt8) == []) = true := rfl
   rw [z1] at h2 h3 h4 h5 h13 h14
   rotate_left
   have g8 : (x3.toList == []) = false := by rw [ba_list_nil1]; exact decide_eq_false g7
   have g9 := ba_none1 g7
   have g10 : (x3.toList != []) = true := bne_iff_ne.mpr g9
   rcases idx_cases (isWr x2 x3) l with ⟨u1, u2⟩ | ⟨wi, hwi, u1, u2, u3⟩
   rw [u2] at HR
   obtain rfl : wv = -1 := hwv.symm.trans u1
   clear u1 u2 hwv
   rotate_left
   rw [u2, u3] at HR
   obtain rfl : wv = (wi : Int) := hwv.symm.trans u1
   obtain ⟨ad', A5, c5, hA3, d0, d1, d2, d3, d4, d5, l5, C5⟩ := at_T55 (Kd.C_below HRr.out HB6.out) (wi : Int) (by omega) (by omega)
   obtain rfl : ad = ad' := Option.some.inj hA3
   simp only [Int.toNat_natCast] at d0 d2
   clear d1 d3 d4 d5 l5 C5 hA3 u1 u2 u3 hwv
   generalize (rd_T55 l (wi : Int)).f0 = z9 at *
   generalize (rd_T55 l (wi : Int)).f1.f1 = z1 at *
   have s1 : decide ((wi : Int) < 0) = false := decide_eq_false (by omega)
   have s2 : decide ((0 : Int) ≤ (wi : Int)) = true := decide_eq_true (by omega)
   rcases int_ways z1 x1 with ⟨rfl, m8, m9⟩ | ⟨j6, j7, j8, j9, j10, j11⟩
   by_cases g2 : z9 < bj
   rotate_left
   have g2d : decide (z9 < bj) = false := decide_eq_false g2
   by_cases g3 : bi < z9
   rotate_left
   have g3d : decide (bi < z9) = false := decide_eq_false g3
   all_goals (have hq := HR.out; simp [badIs, *] at hq; subst hq)
   all_goals clear hcm' hbi' g0 g0'
   all_goals try clear hwv
   all_goals go_wp2
   all_goals try (go_ret; exact ⟨by first | rfl | (simp; done) | (simp [*]; done) | (simp; omega), HB6.out⟩; done)
   all_goals refine Fam.wp_region_fam [] (fun m u => Below w6.heap.size w6 u) (by kernel_rfl) (by kernel_rfl) (Below.refl w6.heap.size w6).drew ?_
   all_goals repeat (first | (refine fam_off (by rfl) (by rfl) ?_; simp only [Act.put, List.setIfInBounds_toArray, List.set_cons_zero, List.set_cons_succ]) | (refine Fam.pure_ (by rfl) (by rfl) rfl (fun K hK => ?_); go_big_quiet_op; refine hK _ ?_; clear hK K) | (refine Fam.read_ (.int .i64 y1) (by rfl) (by rfl) (fun m' _ u hu => ?_) ?_; (· have hx := (HYY.out.below hu).cell (i := 1) rfl; clear hu; go_simp); simp only [Act.put, List.setIfInBounds_toArray, List.set_cons_zero, List.set_cons_succ]) | (refine Fam.read_ (.int .i64 x1) (by rfl) (by rfl) (fun m' _ u hu => ?_) ?_; (· have hx := (HYY.out.below hu).cell (i := 1) rfl; clear hu; go_simp); simp only [Act.put, List.setIfInBounds_toArray, List.set_cons_zero, List.set_cons_succ]) | (refine Fam.read_ (.int .i64 z1) (by rfl) (by rfl) (fun m' _ u hu => ?_) ?_; (· have hx := (HYY.out.below hu).cell (i := 1) rfl; clear hu; go_simp); simp only [Act.put, List.setIfInBounds_toArray, List.set_cons_zero, List.set_cons_succ]) | (refine Fam.read_ (.int .i64 x1) (by rfl) (by rfl) (fun m' _ u hu => ?_) ?_; (· have hx := (HXX.out.below hu).cell (i := 1) rfl; clear hu; go_simp); simp only [Act.put, List.setIfInBounds_toArray, List.set_cons_zero, List.set_cons_succ]) | (refine Fam.read_ (.int .i64 z1) (by rfl) (by rfl) (fun m' _ u hu => ?_) ?_; (· have hx := (HXX.out.below hu).cell (i := 1) rfl; clear hu; go_simp); simp only [Act.put, List.setIfInBounds_toArray, List.set_cons_zero, List.set_cons_succ]) | (refine Fam.read_ (.string y3) (by rfl) (by rfl) (fun m' _ u hu => ?_) ?_; (· have hx := (HYY.out.below hu).cell (i := 3) rfl; clear hu; go_simp); simp only [Act.put, List.setIfInBounds_toArray, List.set_cons_zero, List.set_cons_succ]) | (refine Fam.read_ (.string x3) (by rfl) (by rfl) (fun m' _ u hu => ?_) ?_; (· have hx := (HYY.out.below hu).cell (i := 3) rfl; clear hu; go_simp); simp only [Act.put, List.setIfInBounds_toArray, List.set_cons_zero, List.set_cons_succ]) | (refine Fam.read_ (.string ⟨#[]⟩) (by rfl) (by rfl) (fun m' _ u hu => ?_) ?_; (· have hx := (HYY.out.below hu).cell (i := 3) rfl; clear hu; go_simp); simp only [Act.put, List.setIfInBounds_toArray, List.set_cons_zero, List.set_cons_succ]) | (refine Fam.read_ (.string x3) (by rfl) (by rfl) (fun m' _ u hu => ?_) ?_; (· have hx := (HXX.out.below hu).cell (i := 3) rfl; clear hu; go_simp); simp only [Act.put, List.setIfInBounds_toArray, List.set_cons_zero, List.set_cons_succ]) | (refine Fam.read_ (.string ⟨#[]⟩) (by rfl) (by rfl) (fun m' _ u hu => ?_) ?_; (· have hx := (HXX.out.below hu).cell (i := 3) rfl; clear hu; go_simp); simp only [Act.put, List.setIfInBounds_toArray, List.set_cons_zero, List.set_cons_succ]) | (refine Fam.read_ (.int .i64 bj) (by rfl) (by rfl) (fun m' _ u hu => ?_) ?_; (· have hx := (HE.out.below hu).cell (i := 2) rfl; clear hu; go_simp); simp only [Act.put, List.setIfInBounds_toArray, List.set_cons_zero, List.set_cons_succ]) | (refine Fam.read_ (.int .i64 bi) (by rfl) (by rfl) (fun m' _ u hu => ?_) ?_; (· have hx := (HE.out.below hu).cell (i := 1) rfl; clear hu; go_simp); simp only [Act.put, List.setIfInBounds_toArray, List.set_cons_zero, List.set_cons_succ]) | (refine Fam.read_ (.int .i64 z9) (by rfl) (by rfl) (fun m' _ u hu => ?_) ?_; (· have hx := pw_cell_below hu d0; clear hu; go_simp); simp only [Act.put, List.setIfInBounds_toArray, List.set_cons_zero, List.set_cons_succ]) | (refine Fam.read_ (.int .i64 z1) (by rfl) (by rfl) (fun m' _ u hu => ?_) ?_; (· have hx := pw_cell_below hu d2; clear hu; go_simp); simp only [Act.put, List.setIfInBounds_toArray, List.set_cons_zero, List.set_cons_succ]))
   all_goals refine Fam.nil_ ?_
   all_goals intro w7 h7
   all_goals go_wp2
   all_goals go_ret
   all_goals exact ⟨by first | rfl | (simp; done) | (simp [*]; done) | (simp; omega), below_step HB6.out h7⟩
 clear HEn
 by_cases f4 : bk = 4
 subst f4
 clear f1 f2 f3
 rcases int_ways x1 y1 with ⟨rfl, k8, k9⟩ | ⟨h6, h7, h8, h9, h10, h11⟩
 by_cases g1 : bi < bj
 rotate_left
 have g1d : decide (bi < bj) = false := decide_eq_false g1
 rotate_right
 rcases txt_ways x3 y3 with ⟨rfl, l8, l9⟩ | ⟨h1, h2, h3, h4, h5, h13, h14⟩
 all_goals (have hq := HR.out; simp [badIs, *] at hq; subst hq)
 all_goals clear hcm' hbi' g0 g0' hwv
 all_goals go_wp2
 all_goals go_ret
 all_goals exact ⟨by first | rfl | (simp; done) | (simp [*]; done) | (simp; omega), HB6.out⟩
end Go.Proofs.YtjlpjpjodhkpdaaGreatDoor
