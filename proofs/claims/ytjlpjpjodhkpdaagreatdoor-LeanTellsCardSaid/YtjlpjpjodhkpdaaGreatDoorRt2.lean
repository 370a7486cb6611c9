/- cartoucheref15.Edge: do proofs show an edge? By the document. -/
import Derived.Test.YtjlpjpjodhkpdaaGreatDoorRt1
set_option maxHeartbeats 16000000
set_option maxRecDepth 100000
set_option linter.unusedVariables false
set_option linter.unusedSimpArgs false
namespace Go.Proofs.YtjlpjpjodhkpdaaGreatDoor
open Go.RowKit Go.Proofs.YtjlpjpjodhkpdaaGreatDoor.Q Go.Proofs.YtjlpjpjodhkpdaaGreatDoorW.PrintWords
theorem rEdge_any (A0 : Option Addr) (c0 : Nat) (l : List Prf) (e0 e1 e2 e3 e4 : Int) (w : World) (hr : Kd.C k55 w A0 l.length l) (hl : l.length ≤ 9223372036854775806) :
 Calls Tryz.prog 17 #[.slice A0 l.length c0, .agg #[.int .i64 e0, .int .i64 e1, .int .i64 e2, .int .i64 e3, .int .i64 e4]] w fun e w' => e = .returned (.bool (lnEdge l ⟨e0, e1, e2, e3, e4⟩)) ∧ Below w.heap.size w w' := by
 have HX := Lib.hid (fun u (hb : Below w.heap.size w u) => rAt_any A0 c0 l e3 u (Kd.C_below hr hb) hl)
 have HY := Lib.hid (fun u (hb : Below w.heap.size w u) => rAt_any A0 c0 l e4 u (Kd.C_below hr hb) hl)
 have HF := Lib.hid (fun u (hb : Below w.heap.size w u) => rCommit_any A0 c0 l e1 u (Kd.C_below hr hb) hl)
 have HT := Lib.hid (fun u (hb : Below w.heap.size w u) => rCommit_any A0 c0 l e2 u (Kd.C_below hr hb) hl)
 have HB1 := Lib.hid (below_alloc (Below.refl w.heap.size w) (.cells #[.int .i64 e0, .int .i64 e1, .int .i64 e2, .int .i64 e3, .int .i64 e4] 32))
 have HE := Lib.hid (RowIs.new w 32 [.int .i64 e0, .int .i64 e1, .int .i64 e2, .int .i64 e3, .int .i64 e4])
 have ea0 := HE.out.cell (i := 0) rfl; have ea1 := HE.out.cell (i := 1) rfl; have ea2 := HE.out.cell (i := 2) rfl; have ea3 := HE.out.cell (i := 3) rfl; have ea4 := HE.out.cell (i := 4) rfl
 clear ea0 ea1 ea2 ea3 ea4
 have ea0 := True.intro; have ea1 := True.intro; have ea2 := True.intro; have ea3 := True.intro; have ea4 := True.intro
 have HRr := Lib.hid hr
 unfold lnEdge
 dsimp only
 generalize lnCommit l e1 = f at HF ⊢
 generalize lnCommit l e2 = t at HT ⊢
 rcases idx_cases (isAt e3) l with ⟨h1, h2⟩ | ⟨i, hi, h1, h2, h3⟩
 · rw [h2]
   rw [h1] at HX
   obtain ⟨r4, h4⟩ : ∃ r4, firstFrom (atK (isAt e4) l) 0 l.length = r4 := ⟨_, rfl⟩
   rw [h4] at HY
   clear h1 h2 h4 hr
   go_enter Tryz.func17, Tryz.ntmps17
   go_wp2_with (go_at_call 42; refine Pause'.out ?_)
   constructor
   refine (HX.out _ HB1.out).mono ?_
   rintro e w2 ⟨rfl, hb⟩
   have HB2 := Lib.hid (below_step HB1.out hb)
   have he := HE.out.below hb
   clear HE ea0 ea1 ea2 ea3 ea4
   have HE := Lib.hid he
   have ea0 := he.cell (i := 0) rfl; have ea1 := he.cell (i := 1) rfl; have ea2 := he.cell (i := 2) rfl; have ea3 := he.cell (i := 3) rfl; have ea4 := he.cell (i := 4) rfl
   clear hb he
   go_wp2_with (go_at_call 42; refine Pause'.out ?_)
   constructor
   refine (HY.out _ HB2.out).mono ?_
   rintro e w3 ⟨rfl, hb⟩
   have HB3 := Lib.hid (below_step HB2.out hb)
   have he := HE.out.below hb
   clear HE ea0 ea1 ea2 ea3 ea4
   have HE := Lib.hid he
   have ea0 := he.cell (i := 0) rfl; have ea1 := he.cell (i := 1) rfl; have ea2 := he.cell (i := 2) rfl; have ea3 := he.cell (i := 3) rfl; have ea4 := he.cell (i := 4) rfl
   clear hb he
   go_wp2_with (go_at_call 43; refine Pause'.out ?_)
   constructor
   refine (HF.out _ HB3.out).mono ?_
   rintro e w4 ⟨rfl, hb⟩
   have HB4 := Lib.hid (below_step HB3.out hb)
   have he := HE.out.below hb
   clear HE ea0 ea1 ea2 ea3 ea4
   have HE := Lib.hid he
   have ea0 := he.cell (i := 0) rfl; have ea1 := he.cell (i := 1) rfl; have ea2 := he.cell (i := 2) rfl; have ea3 := he.cell (i := 3) rfl; have ea4 := he.cell (i := 4) rfl
   clear hb he
   go_wp2_with (go_at_call 43; refine Pause'.out ?_)
   constructor
   refine (HT.out _ HB4.out).mono ?_
   rintro e w5 ⟨rfl, hb⟩
   have HB5 := Lib.hid (below_step HB4.out hb)
   have he := HE.out.below hb
   clear HE ea0 ea1 ea2 ea3 ea4
   have HE := Lib.hid he
   have ea0 := he.cell (i := 0) rfl; have ea1 := he.cell (i := 1) rfl; have ea2 := he.cell (i := 2) rfl; have ea3 := he.cell (i := 3) rfl; have ea4 := he.cell (i := 4) rfl
   clear hb he
   go_wp2
   go_ret
   exact ⟨by simp [edgeIs], HB5.out⟩
 rcases idx_cases (isAt e4) l with ⟨k1, k2⟩ | ⟨k, hk, k1, k2, k3⟩
 · rw [k2]
   rw [h1] at HX
   rw [k1] at HY
   have g0 : decide ((i : Int) < 0) = false := decide_eq_false (by omega)
   clear h1 h2 h3 k1 k2 hr
   go_enter Tryz.func17, Tryz.ntmps17
   go_wp2_with (go_at_call 42; refine Pause'.out ?_)
   constructor
   refine (HX.out _ HB1.out).mono ?_
   rintro e w2 ⟨rfl, hb⟩
   have HB2 := Lib.hid (below_step HB1.out hb)
   have he := HE.out.below hb
   clear HE ea0 ea1 ea2 ea3 ea4
   have HE := Lib.hid he
   have ea0 := he.cell (i := 0) rfl; have ea1 := he.cell (i := 1) rfl; have ea2 := he.cell (i := 2) rfl; have ea3 := he.cell (i := 3) rfl; have ea4 := he.cell (i := 4) rfl
   clear hb he
   go_wp2_with (go_at_call 42; refine Pause'.out ?_)
   constructor
   refine (HY.out _ HB2.out).mono ?_
   rintro e w3 ⟨rfl, hb⟩
   have HB3 := Lib.hid (below_step HB2.out hb)
   have he := HE.out.below hb
   clear HE ea0 ea1 ea2 ea3 ea4
   have HE := Lib.hid he
   have ea0 := he.cell (i := 0) rfl; have ea1 := he.cell (i := 1) rfl; have ea2 := he.cell (i := 2) rfl; have ea3 := he.cell (i := 3) rfl; have ea4 := he.cell (i := 4) rfl
   clear hb he
   go_wp2_with (go_at_call 43; refine Pause'.out ?_)
   constructor
   refine (HF.out _ HB3.out).mono ?_
   rintro e w4 ⟨rfl, hb⟩
   have HB4 := Lib.hid (below_step HB3.out hb)
   have he := HE.out.below hb
   clear HE ea0 ea1 ea2 ea3 ea4
   have HE := Lib.hid he
   have ea0 := he.cell (i := 0) rfl; have ea1 := he.cell (i := 1) rfl; have ea2 := he.cell (i := 2) rfl; have ea3 := he.cell (i := 3) rfl; have ea4 := he.cell (i := 4) rfl
   clear hb he
   go_wp2_with (go_at_call 43; refine Pause'.out ?_)
   constructor
   refine (HT.out _ HB4.out).mono ?_
   rintro e w5 ⟨rfl, hb⟩
   have HB5 := Lib.hid (below_step HB4.out hb)
   have he := HE.out.below hb
   clear HE ea0 ea1 ea2 ea3 ea4
   have HE := Lib.hid he
   have ea0 := he.cell (i := 0) rfl; have ea1 := he.cell (i := 1) rfl; have ea2 := he.cell (i := 2) rfl; have ea3 := he.cell (i := 3) rfl; have ea4 := he.cell (i := 4) rfl
   clear hb he
   go_wp2
   go_ret
   exact ⟨by simp [edgeIs], HB5.out⟩
 rw [h2, h3, k2, k3]
 rw [h1] at HX
 rw [k1] at HY
 obtain ⟨ad, A5, c5, hA0, a0, a1, a2, a3, a4, a5, l5, C5⟩ := at_T55 hr (i : Int) (by omega) (by omega)
 obtain ⟨ad', B5, d5, hA1, b0, b1, b2, b3, b4, b5, m5, D5⟩ := at_T55 hr (k : Int) (by omega) (by omega)
 subst hA0
 obtain rfl : ad = ad' := Option.some.inj hA1
 simp only [Int.toNat_natCast] at a0 a1 a2 a3 a4 a5 b0 b1 b2 b3 b4 b5
 generalize rd_T55 l (i : Int) = p at *
 generalize rd_T55 l (k : Int) = q at *
 obtain ⟨p9, ⟨x0, x1, x2, x3⟩, p8⟩ := p
 obtain ⟨q9, ⟨y0, y1, y2, y3⟩, q8⟩ := q
 dsimp only at *
 obtain ⟨r, hr0⟩ : ∃ r, r = edgeIs true true e0 e1 e2 ⟨x0, x1, x2, x3⟩ ⟨y0, y1, y2, y3⟩ f t (isP (isWr x2 x3) l) (foundP (isWr x2 x3) l).f1.f1 (lnCommit l (foundP (isWr x2 x3) l).f1.f1) := ⟨_, rfl⟩
 rw [← hr0]
 have HR := Lib.hid hr0
 have g0 : decide ((i : Int) < 0) = false := decide_eq_false (by omega)
 have g0' : decide ((k : Int) < 0) = false := decide_eq_false (by omega)
 clear hr0 h1 h2 h3 k1 k2 k3 hr a0 a5 l5 C5 b0 b5 m5 D5 hA1
 go_enter Tryz.func17, Tryz.ntmps17
 go_wp2_with (go_at_call 42; refine Pause'.out ?_)
 constructor
 refine (HX.out _ HB1.out).mono ?_
 rintro e w2 ⟨rfl, hb⟩
 have HB2 := Lib.hid (below_step HB1.out hb)
 have he := HE.out.below hb
 clear HE ea0 ea1 ea2 ea3 ea4
 have HE := Lib.hid he
 have ea0 := he.cell (i := 0) rfl; have ea1 := he.cell (i := 1) rfl; have ea2 := he.cell (i := 2) rfl; have ea3 := he.cell (i := 3) rfl; have ea4 := he.cell (i := 4) rfl
 clear hb he
 go_wp2_with (go_at_call 42; refine Pause'.out ?_)
 constructor
 refine (HY.out _ HB2.out).mono ?_
 rintro e w3 ⟨rfl, hb⟩
 have HB3 := Lib.hid (below_step HB2.out hb)
 have he := HE.out.below hb
 clear HE ea0 ea1 ea2 ea3 ea4
 have HE := Lib.hid he
 have ea0 := he.cell (i := 0) rfl; have ea1 := he.cell (i := 1) rfl; have ea2 := he.cell (i := 2) rfl; have ea3 := he.cell (i := 3) rfl; have ea4 := he.cell (i := 4) rfl
 clear hb he
 go_wp2_with (go_at_call 43; refine Pause'.out ?_)
 constructor
 refine (HF.out _ HB3.out).mono ?_
 rintro e w4 ⟨rfl, hb⟩
 have HB4 := Lib.hid (below_step HB3.out hb)
 have he := HE.out.below hb
 clear HE ea0 ea1 ea2 ea3 ea4
 have HE := Lib.hid he
 have ea0 := he.cell (i := 0) rfl; have ea1 := he.cell (i := 1) rfl; have ea2 := he.cell (i := 2) rfl; have ea3 := he.cell (i := 3) rfl; have ea4 := he.cell (i := 4) rfl
 clear hb he
 go_wp2_with (go_at_call 43; refine Pause'.out ?_)
 constructor
 refine (HT.out _ HB4.out).mono ?_
 rintro e w5 ⟨rfl, hb⟩
 have HB5 := Lib.hid (below_step HB4.out hb)
 have he := HE.out.below hb
 clear HE ea0 ea1 ea2 ea3 ea4
 have HE := Lib.hid he
 have ea0 := he.cell (i := 0) rfl; have ea1 := he.cell (i := 1) rfl; have ea2 := he.cell (i := 2) rfl; have ea3 := he.cell (i := 3) rfl; have ea4 := he.cell (i := 4) rfl
 clear hb he
 replace a1 := pw_cell_below HB5.out a1; replace a2 := pw_cell_below HB5.out a2; replace a3 := pw_cell_below HB5.out a3; replace a4 := pw_cell_below HB5.out a4
 replace b1 := pw_cell_below HB5.out b1; replace b2 := pw_cell_below HB5.out b2; replace b3 := pw_cell_below HB5.out b3; replace b4 := pw_cell_below HB5.out b4
 have n0 := World.block_lt_of_cell? _ _ ea0; dsimp only at n0; have n1 := World.block_lt_of_cell? _ _ a1; have n2 := World.block_lt_of_cell? _ _ b1
 clear HX HY HF HT HB1 HB2 HB3 HB4
 rcases int_ways e1 e2 with ⟨rfl, k8, k9⟩ | ⟨k1, k2, k3, k4, k5, k6⟩
 rotate_left
 by_cases p2 : f < 0
 have p2n : ¬ 0 ≤ f := by omega
 rotate_left
 have p2d : decide (f < 0) = false := decide_eq_false p2
 have p2n : 0 ≤ f := by omega
 by_cases p3 : t < 0
 have p3n : ¬ 0 ≤ t := by omega
 rotate_left
 have p3d : decide (t < 0) = false := decide_eq_false p3
 have p3n : 0 ≤ t := by omega
 rcases int_ways x1 e1 with ⟨rfl, u8, u9⟩ | ⟨u1, u2, u3, u4, u5, u6⟩
 rcases int_ways y1 e2 with ⟨rfl, v8, v9⟩ | ⟨v1, v2, v3, v4, v5, v6⟩
 rcases txt_ways x2 y2 with ⟨rfl, q8, q9⟩ | ⟨q1, q2, q3, q4, q5, q6, q7⟩
 have MAIN := True.intro
 all_goals first | (have := MAIN; skip) | (have hq := HR.out; simp [edgeIs, *] at hq; subst hq; go_wp2; go_ret; exact ⟨by first | rfl | (simp; done) | (simp [*]; done) | (simp; omega), by first | exact HB5.out | exact below_alloc (below_alloc HB5.out _) _⟩; done)
 clear MAIN
 by_cases g1 : e0 = 1
 · subst g1
   rcases int_ways x0 3 with ⟨rfl, g8, g9⟩ | ⟨g1, g2, g3, g4, g5, g6⟩
   rcases int_ways y0 3 with ⟨rfl, s8, s9⟩ | ⟨s1, s2, s3, s4, s5, s6⟩
   by_cases g4 : f < t
   rotate_left
   have g4d : decide (f < t) = false := decide_eq_false g4
   all_goals (have hq := HR.out; simp [edgeIs, *] at hq; subst hq; go_wp2; go_ret; exact ⟨by first | rfl | (simp; done) | (simp [*]; done) | (simp; omega), by first | exact HB5.out | exact below_alloc (below_alloc HB5.out _) _⟩; done)
 by_cases g5 : e0 = 2
 · subst g5
   rcases int_ways x0 3 with ⟨rfl, m8, m9⟩ | ⟨m1, m2, m3, m4, m5, m6⟩
   rcases int_ways y0 2 with ⟨rfl, s8, s9⟩ | ⟨s1, s2, s3, s4, s5, s6⟩
   rcases txt_ways x3 y3 with ⟨rfl, r8, r9⟩ | ⟨r1, r2, r3, r4, r5, r6, r7⟩
   all_goals (have hq := HR.out; simp [edgeIs, *] at hq; subst hq; go_wp2; go_ret; exact ⟨by first | rfl | (simp; done) | (simp [*]; done) | (simp; omega), by first | exact HB5.out | exact below_alloc (below_alloc HB5.out _) _⟩; done)
 by_cases g6 : e0 = 3
 rotate_left
 · have hq := HR.out; simp [edgeIs, *] at hq; subst hq; go_wp2; go_ret; exact ⟨by first | rfl | (simp; done) | (simp [*]; done) | (simp; omega), by first | exact HB5.out | exact below_alloc (below_alloc HB5.out _) _⟩; done
 subst g6
 rcases int_ways x0 2 with ⟨rfl, m8, m9⟩ | ⟨m1, m2, m3, m4, m5, m6⟩
 rcases int_ways y0 3 with ⟨rfl, s8, s9⟩ | ⟨s1, s2, s3, s4, s5, s6⟩
 by_cases g7 : x3.size = 0
 have g8 := ba_nil1 g7
 subst g8
 rotate_left
 have g8 : (x3.toList == []) = false := by rw [ba_list_nil1]; exact decide_eq_false g7
 have g9 := ba_none1 g7
 have MAIN := True.intro
 all_goals first | (have := MAIN; skip) | (have hq := HR.out; simp [edgeIs, *] at hq; subst hq; go_wp2; go_ret; exact ⟨by first | rfl | (simp; done) | (simp [*]; done) | (simp; omega), by first | exact HB5.out | exact below_alloc (below_alloc HB5.out _) _⟩; done)
 clear MAIN
 have HWr := Lib.hid (fun u (hb : Below w.heap.size w u) => rWriter_any (some ad) c0 l x2 x3 u (Kd.C_below HRr.out hb) hl)
 rcases idx_cases (isWr x2 x3) l with ⟨w1', w2'⟩ | ⟨wi, hwi, w1', w2', w3'⟩
 rw [w1'] at HWr
 rw [w2'] at HR
 rotate_left
 rw [w1'] at HWr
 rw [w2', w3'] at HR
 obtain ⟨ad', A5, c5, hA3, d0, d1, d2, d3, d4, d5, l5, C5⟩ := at_T55 HRr.out (wi : Int) (by omega) (by omega)
 obtain rfl : ad = ad' := Option.some.inj hA3
 simp only [Int.toNat_natCast] at d2
 have HM := Lib.hid (fun u (hb : Below w.heap.size w u) => rCommit_any (some ad) c0 l (rd_T55 l (wi : Int)).f1.f1 u (Kd.C_below HRr.out hb) hl)
 clear d0 d1 d3 d4 d5 l5 C5 hA3 w1' w2' w3'
 generalize lnCommit l (rd_T55 l (wi : Int)).f1.f1 = m at *
 generalize (rd_T55 l (wi : Int)).f1.f1 = z2 at *
 have s1' : decide ((wi : Int) < 0) = false := decide_eq_false (by omega)
 rcases int_ways z2 y1 with ⟨rfl, j8, j9⟩ | ⟨j1, j2, j3, j4, j5, j6⟩
 rotate_left
 by_cases h2 : m < 0
 have h2n : ¬ 0 ≤ m := by omega
 have h2d : decide (0 ≤ m) = false := decide_eq_false h2n
 rotate_left
 have h2n : 0 ≤ m := by omega
 by_cases h3 : m < t
 rotate_left
 have h3d : decide (m < t) = false := decide_eq_false h3
 all_goals (have hq := HR.out; simp [edgeIs, *] at hq; subst hq)
 all_goals go_wp2_with (go_at_call 44; refine (HWr.out _ (below_alloc (below_alloc HB5.out _) _)).mono ?_; rintro e w6 ⟨rfl, hb⟩; have HB6 := Lib.hid (below_step (below_alloc (below_alloc HB5.out _) _) hb); have he := ((HE.out.alloc _).alloc _).below hb; clear ea0 ea1 ea2 ea3 ea4 a1 a2 a3 a4 b1 b2 b3 b4 n0 n1 n2; have ea2 := he.cell (i := 2) rfl; try (replace d2 := pw_cell_below HB6.out d2); clear hb he)
 all_goals go_quiet (fail)
 all_goals go_wp2_with (go_at_call 43; refine (HM.out _ (by first | exact HB6.out | exact pw_below_drewN HB6.out _)).mono ?_; rintro e w7 ⟨rfl, hb⟩; have HB7 := Lib.hid (below_step (by first | exact HB6.out | exact pw_below_drewN HB6.out _) hb); clear hb)
 all_goals go_ret
 all_goals exact ⟨by first | rfl | (simp; done) | (simp [*]; done) | (simp; omega), by first | exact HB7.out | first | exact HB6.out | exact pw_below_drewN HB6.out _⟩
end Go.Proofs.YtjlpjpjodhkpdaaGreatDoor
