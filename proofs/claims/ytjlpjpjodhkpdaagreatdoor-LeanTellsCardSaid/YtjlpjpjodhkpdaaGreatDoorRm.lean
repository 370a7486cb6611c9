/- cartoucheref14.May at any certificate: may it be? -/
import Derived.Test.YtjlpjpjodhkpdaaGreatDoorRm2
set_option maxHeartbeats 16000000
set_option maxRecDepth 100000
set_option linter.unusedVariables false
set_option linter.unusedSimpArgs false
namespace Go.Proofs.YtjlpjpjodhkpdaaGreatDoor
open Go.RowKit Go.Proofs.YtjlpjpjodhkpdaaGreatDoor.Q Go.Proofs.YtjlpjpjodhkpdaaGreatDoorW.PrintWords
theorem rMay_any (tenant : ByteArray) (seq : Int) (prev root : ByteArray) (count level : Int) (accept : Bool) (A2 : Option Addr) (c2 : Nat) (order : List Int) (bk bi bj : Int) (A6 : Option Addr) (c6 : Nat) (ring : List Edg) (A7 : Option Addr) (c7 : Nat) (proofs : List Prf) (w : World) (h2 : Kd.C (Kd.int .i64) w A2 order.length order) (h6 : Kd.C k32 w A6 ring.length ring) (h7 : Kd.C k55 w A7 proofs.length proofs) :
 Calls Tryz.prog 35 #[.agg #[.string tenant, .int .i64 seq, .string prev, .string root, .int .i64 count, .int .i64 level, .bool accept, .slice A2 order.length c2, .int .i64 bk, .int .i64 bi, .int .i64 bj, .slice A6 ring.length c6, .slice A7 proofs.length c7]] w fun e w' => e = .returned (.bool (certB ⟨tenant, seq, prev, root, count, level, accept, order, bk, bi, bj, ring, proofs⟩)) ∧ Below w.heap.size w w' := by
 have HI := Lib.hid (fun u => rplace_any bi u); have HJ := Lib.hid (fun u => rplace_any bj u)
 have HA := Lib.hid (And.intro h2 (And.intro h6 h7))
 obtain ⟨r, hr0⟩ : ∃ r, r = certB ⟨tenant, seq, prev, root, count, level, accept, order, bk, bi, bj, ring, proofs⟩ := ⟨_, rfl⟩
 have hr1 := hr0
 rw [← hr0]
 have hf0 := certB_iff ⟨tenant, seq, prev, root, count, level, accept, order, bk, bi, bj, ring, proofs⟩
 rw [← hr0] at hf0
 dsimp only at hf0
 have HF := Lib.hid hf0
 have HR := Lib.hid hr1
 clear hr1
 clear hr0 hf0 h2 h6 h7
 have HB2 := Lib.hid (below_alloc (below_alloc (Below.refl w.heap.size w) (.cells #[.string tenant, .int .i64 seq, .string prev, .string root, .int .i64 count, .int .i64 level, .bool accept, .slice A2 order.length c2, .int .i64 bk, .int .i64 bi, .int .i64 bj, .slice A6 ring.length c6, .slice A7 proofs.length c7] 30)) (.cells #[.int .i64 level, .bool accept, .slice A2 order.length c2, .int .i64 bk, .int .i64 bi, .int .i64 bj, .slice A6 ring.length c6] 27))
 by_cases p1 : (tenant.size : Int) < 1
 have s1 : tenant.size = 0 := by omega
 rotate_left
 have d1 : decide ((tenant.size : Int) < 1) = false := decide_eq_false p1
 have s1 : tenant.size ≠ 0 := by omega
 by_cases p2 : (16 : Int) < (tenant.size : Int)
 rotate_left
 have d2 : decide ((16 : Int) < (tenant.size : Int)) = false := decide_eq_false p2
 by_cases p3 : seq < 1
 rotate_left
 have d3 : decide (seq < 1) = false := decide_eq_false p3
 by_cases p4 : 1048576 < seq
 rotate_left
 have d4 : decide (1048576 < seq) = false := decide_eq_false p4
 by_cases p5 : ¬ (prev.size = 0 ∨ prev.size = 32)
 have s5 : prev.size ≠ 0 := by omega
 have s6 : prev.size ≠ 32 := by omega
 have s7 : ((prev.size : Int) != 0) = true := bne_iff_ne.mpr (by omega)
 have s8 : ((prev.size : Int) != 32) = true := bne_iff_ne.mpr (by omega)
 rotate_left
 have hpv : ((prev.size : Int) != 0 && (prev.size : Int) != 32) = false := by rcases Decidable.not_not.1 p5 with h | h <;> simp [h]
 by_cases p6 : ¬ root.size = 32
 have s6 : ((root.size : Int) != 32) = true := bne_iff_ne.mpr (by omega)
 rotate_left
 have p6' : root.size = 32 := Decidable.not_not.1 p6
 by_cases p7 : count < 0
 rotate_left
 have d7 : decide (count < 0) = false := decide_eq_false p7
 by_cases p8 : 256 < count
 rotate_left
 have d8 : decide (256 < count) = false := decide_eq_false p8
 by_cases p9 : level < 1
 rotate_left
 have d9 : decide (level < 1) = false := decide_eq_false p9
 by_cases p10 : 2 < level
 rotate_left
 have d10 : decide (2 < level) = false := decide_eq_false p10
 by_cases p11 : (32 : Int) < (order.length : Int)
 rotate_left
 have d11 : decide ((32 : Int) < (order.length : Int)) = false := decide_eq_false p11
 by_cases p12 : bk < 0
 rotate_left
 have d12 : decide (bk < 0) = false := decide_eq_false p12
 by_cases p13 : 4 < bk
 rotate_left
 have d13 : decide (4 < bk) = false := decide_eq_false p13
 generalize hbi : placeB bi = b1 at *
 generalize hbj : placeB bj = b2 at *
 cases b1
 rotate_left
 cases b2
 rotate_left
 by_cases p14 : (128 : Int) < (ring.length : Int)
 rotate_left
 have d14 : decide ((128 : Int) < (ring.length : Int)) = false := decide_eq_false p14
 by_cases p15 : (256 : Int) < (proofs.length : Int)
 rotate_left
 have d15 : decide ((256 : Int) < (proofs.length : Int)) = false := decide_eq_false p15
 · rw [HR.out]
   exact rMay_ok _ _ _ _ _ _ _ _ _ _ _ _ _ _ _ _ _ _ _ w HA.out.1 HA.out.2.1 HA.out.2.2 p1 p2 p3 p4 p5 p6 p7 p8 p9 p10 p11 p12 p13 p14 p15 hbi hbj
 all_goals (have hq : r = false := (by cases r with | false => rfl | true => exact absurd (HF.out.1 rfl) (by intro h; first | omega | (simp at h; done))); subst hq)
 all_goals clear HF HA HR
 all_goals first | (have : ¬ (prev.size = 0 ∨ prev.size = 32) := p5; skip) | (rcases Decidable.not_not.1 p5 with hp | hp) | skip
 all_goals go_enter Tryz.func35, Tryz.ntmps35
 all_goals go_wp2_with (go_at_call 77; first | (with_reducible refine (HI.out _).mono ?_; rintro e u1 ⟨rfl, ⟨n1, rfl⟩⟩) | (with_reducible refine (HJ.out _).mono ?_; rintro e u2 ⟨rfl, ⟨n2, rfl⟩⟩))
 all_goals go_ret
 all_goals exact ⟨by first | rfl | (simp; done) | (simp [*]; done) | (simp; omega), by repeat (first | (with_reducible first | exact HB2.out | apply pw_below_drewN) | exact HB2.out)⟩
end Go.Proofs.YtjlpjpjodhkpdaaGreatDoor
