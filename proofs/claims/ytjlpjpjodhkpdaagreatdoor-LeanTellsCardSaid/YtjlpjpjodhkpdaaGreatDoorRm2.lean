/- cartoucheref14.May at any certificate: may it be? -/
import Derived.Test.YtjlpjpjodhkpdaaGreatDoorRyM
set_option maxHeartbeats 16000000
set_option maxRecDepth 100000
set_option linter.unusedVariables false
set_option linter.unusedSimpArgs false
namespace Go.Proofs.YtjlpjpjodhkpdaaGreatDoor
open Go.RowKit Go.Proofs.YtjlpjpjodhkpdaaGreatDoor.Q Go.Proofs.YtjlpjpjodhkpdaaGreatDoorW.PrintWords
theorem rMay_ok (tenant : ByteArray) (seq : Int) (prev root : ByteArray) (count level : Int) (accept : Bool) (A2 : Option Addr) (c2 : Nat) (order : List Int) (bk bi bj : Int) (A6 : Option Addr) (c6 : Nat) (ring : List Edg) (A7 : Option Addr) (c7 : Nat) (proofs : List Prf) (w : World) (h2 : Kd.C (Kd.int .i64) w A2 order.length order) (h6 : Kd.C k32 w A6 ring.length ring) (h7 : Kd.C k55 w A7 proofs.length proofs)
 (p1 : ¬ ((tenant.size : Int) < 1)) (p2 : ¬ ((16 : Int) < (tenant.size : Int))) (p3 : ¬ (seq < 1)) (p4 : ¬ (1048576 < seq)) (p5 : ¬ (¬ (prev.size = 0 ∨ prev.size = 32))) (p6 : ¬ (¬ root.size = 32)) (p7 : ¬ (count < 0)) (p8 : ¬ (256 < count)) (p9 : ¬ (level < 1)) (p10 : ¬ (2 < level)) (p11 : ¬ ((32 : Int) < (order.length : Int))) (p12 : ¬ (bk < 0)) (p13 : ¬ (4 < bk)) (p14 : ¬ ((128 : Int) < (ring.length : Int))) (p15 : ¬ ((256 : Int) < (proofs.length : Int))) (hbi : placeB bi = true) (hbj : placeB bj = true) :
 Calls Tryz.prog 35 #[.agg #[.string tenant, .int .i64 seq, .string prev, .string root, .int .i64 count, .int .i64 level, .bool accept, .slice A2 order.length c2, .int .i64 bk, .int .i64 bi, .int .i64 bj, .slice A6 ring.length c6, .slice A7 proofs.length c7]] w fun e w' => e = .returned (.bool (certB ⟨tenant, seq, prev, root, count, level, accept, order, bk, bi, bj, ring, proofs⟩)) ∧ Below w.heap.size w w' := by
 have HI := Lib.hid (fun u => rplace_any bi u); have HJ := Lib.hid (fun u => rplace_any bj u)
 have HO := Lib.hid (fun u (hb : Below w.heap.size w u) => Kd.C_below h2 hb)
 have HG := Lib.hid (fun u (hb : Below w.heap.size w u) => Kd.C_below h6 hb)
 have HP := Lib.hid (fun u (hb : Below w.heap.size w u) => Kd.C_below h7 hb)
 obtain ⟨r, hr0⟩ : ∃ r, r = certB ⟨tenant, seq, prev, root, count, level, accept, order, bk, bi, bj, ring, proofs⟩ := ⟨_, rfl⟩
 rw [← hr0]
 have hf0 := certB_iff ⟨tenant, seq, prev, root, count, level, accept, order, bk, bi, bj, ring, proofs⟩
 rw [← hr0] at hf0
 dsimp only at hf0
 have HF := Lib.hid hf0
 clear hr0 hf0 h2 h6 h7
 have HB2 := Lib.hid (below_alloc (below_alloc (Below.refl w.heap.size w) (.cells #[.string tenant, .int .i64 seq, .string prev, .string root, .int .i64 count, .int .i64 level, .bool accept, .slice A2 order.length c2, .int .i64 bk, .int .i64 bi, .int .i64 bj, .slice A6 ring.length c6, .slice A7 proofs.length c7] 30)) (.cells #[.int .i64 level, .bool accept, .slice A2 order.length c2, .int .i64 bk, .int .i64 bi, .int .i64 bj, .slice A6 ring.length c6] 27))
 have HX := Lib.hid ((RowIs.new w 30 [.string tenant, .int .i64 seq, .string prev, .string root, .int .i64 count, .int .i64 level, .bool accept, .slice A2 order.length c2, .int .i64 bk, .int .i64 bi, .int .i64 bj, .slice A6 ring.length c6, .slice A7 proofs.length c7]).alloc (.cells #[.int .i64 level, .bool accept, .slice A2 order.length c2, .int .i64 bk, .int .i64 bi, .int .i64 bj, .slice A6 ring.length c6] 27))
 have HV := Lib.hid (by have h := RowIs.new (w.alloc (.cells #[.string tenant, .int .i64 seq, .string prev, .string root, .int .i64 count, .int .i64 level, .bool accept, .slice A2 order.length c2, .int .i64 bk, .int .i64 bi, .int .i64 bj, .slice A6 ring.length c6, .slice A7 proofs.length c7] 30)) 27 [.int .i64 level, .bool accept, .slice A2 order.length c2, .int .i64 bk, .int .i64 bi, .int .i64 bj, .slice A6 ring.length c6]; rw [World.size_alloc] at h; exact h)
 rw [hbi] at HI HF
 rw [hbj] at HJ HF
 have d1 : decide ((tenant.size : Int) < 1) = false := decide_eq_false p1
 have s1 : tenant.size ≠ 0 := by omega
 have d2 : decide ((16 : Int) < (tenant.size : Int)) = false := decide_eq_false p2
 have d3 : decide (seq < 1) = false := decide_eq_false p3
 have d4 : decide (1048576 < seq) = false := decide_eq_false p4
 have hpv : ((prev.size : Int) != 0 && (prev.size : Int) != 32) = false := by rcases Decidable.not_not.1 p5 with h | h <;> simp [h]
 have p6' : root.size = 32 := Decidable.not_not.1 p6
 have d7 : decide (count < 0) = false := decide_eq_false p7
 have d8 : decide (256 < count) = false := decide_eq_false p8
 have d9 : decide (level < 1) = false := decide_eq_false p9
 have d10 : decide (2 < level) = false := decide_eq_false p10
 have d11 : decide ((32 : Int) < (order.length : Int)) = false := decide_eq_false p11
 have d12 : decide (bk < 0) = false := decide_eq_false p12
 have d13 : decide (4 < bk) = false := decide_eq_false p13
 have d14 : decide ((128 : Int) < (ring.length : Int)) = false := decide_eq_false p14
 have d15 : decide ((256 : Int) < (proofs.length : Int)) = false := decide_eq_false p15
 rcases Decidable.not_not.1 p5 with hp | hp
 rotate_left
 have hp1 : ((prev.size : Int) != 0) = true := bne_iff_ne.mpr (by omega)
 rotate_right
 all_goals
  have HQ := Lib.hid (fun a1 a2 a3 => HF.out.2 ⟨by omega, Decidable.not_not.1 p5, by omega, by omega, by omega, rfl, rfl, by omega, by omega, a1, a2, a3⟩)
  have HK1 := Lib.hid (fun h => (HF.out.1 h).2.2.2.2.2.2.2.2.2.1)
  have HK2 := Lib.hid (fun h => (HF.out.1 h).2.2.2.2.2.2.2.2.2.2.1)
  have HK3 := Lib.hid (fun h => (HF.out.1 h).2.2.2.2.2.2.2.2.2.2.2)
  have hl1 : order.length ≤ 32 := by omega
  have hl2 : ring.length ≤ 128 := by omega
  have hl3 : proofs.length ≤ 256 := by omega
  clear HF
  go_enter Tryz.func35, Tryz.ntmps35
  go_wp2_with (go_at_call 77; first | (with_reducible refine (HI.out _).mono ?_; rintro e u1 ⟨rfl, ⟨n1, rfl⟩⟩) | (with_reducible refine (HJ.out _).mono ?_; rintro e u2 ⟨rfl, ⟨n2, rfl⟩⟩))
  clear p1 p2 p3 p4 p5 p6 p7 p8 p9 p10 p11 p12 p13 p14 p15 d1 d2 d3 d4 d7 d8 d9 d10 d11 d12 d13 d14 d15 s1 p6' hp HI HJ hpv
  try clear hp1
  have HM := Lib.hid (show InM [.string tenant, .int .i64 seq, .string prev, .string root, .int .i64 count, .int .i64 level, .bool accept, .slice A2 order.length c2, .int .i64 bk, .int .i64 bi, .int .i64 bj, .slice A6 ring.length c6, .slice A7 proofs.length c7] [.int .i64 level, .bool accept, .slice A2 order.length c2, .int .i64 bk, .int .i64 bi, .int .i64 bj, .slice A6 ring.length c6] w _ from ⟨HX.out.drewN (n1 + n2), HV.out.drewN (n1 + n2), pw_below_drewN HB2.out (n1 + n2)⟩)
  clear HX HV HB2
  go_loopw [5] (fun x u => ∃ k : Nat, k ≤ order.length ∧ x = .int .i64 (k : Int) ∧ Hid (∀ j : Nat, j < k → txnB (rd order (j : Int)) = true) ∧ Hid (InM [.string tenant, .int .i64 seq, .string prev, .string root, .int .i64 count, .int .i64 level, .bool accept, .slice A2 order.length c2, .int .i64 bk, .int .i64 bi, .int .i64 bj, .slice A6 ring.length c6, .slice A7 proofs.length c7] [.int .i64 level, .bool accept, .slice A2 order.length c2, .int .i64 bk, .int .i64 bi, .int .i64 bj, .slice A6 ring.length c6] w u)) (fun x _ => order.length + 1 - (intOf x).toNat)
  case atStart => exact ⟨0, by omega, rfl, Lib.hid (fun j h => by omega), HM⟩
  case round =>
   clear HM
   obtain ⟨k, hk, rfl, HA, HM⟩ := hrel
   have v2 := HM.out.2.1.cell (i := 2) rfl
   by_cases hc : k < order.length
   · have hlt : decide ((k : Int) < (order.length : Int)) = true := by simp; omega
     have hlt2 : decide (k < order.length) = true := by simp; omega
     obtain ⟨ad, rfl, y0⟩ := Kd.at_int (HO.out _ HM.out.2.2) (k : Int) (by omega) (by omega)
     rw [Int.toNat_natCast] at y0
     have HK := Lib.hid (fun h => HK1.out h k hc)
     have HA2 := Lib.hid (fun (h : txnB (rd order (k : Int)) = true) (j : Nat) (hj : j < k + 1) => show txnB (rd order (j : Int)) = true from if e : j = k then by rw [e]; exact h else HA.out j (by omega))
     have HT := Lib.hid (fun u => rtxn_any (rd order (k : Int)) u)
     generalize txnB (rd order (k : Int)) = a at *
     generalize rd order (k : Int) = x at *
     clear HA
     cases a
     · have hq : r = false := (by cases r with | false => rfl | true => exact absurd (HK.out rfl) (by simp))
       subst hq
       go_wp2_with (go_at_call 78; refine (HT.out _).mono ?_; rintro e u1 ⟨rfl, ⟨n3, rfl⟩⟩)
       go_ret
       exact ⟨by first | rfl | (simp; done) | (simp [*]; done) | (simp; omega), pw_below_drewN HM.out.2.2 _⟩
     · have HA3 := Lib.hid (HA2.out rfl)
       clear HA2 HK
       go_wp2_with (go_at_call 78; refine (HT.out _).mono ?_; rintro e u1 ⟨rfl, ⟨n3, rfl⟩⟩)
       go_roundw
       case rel => exact ⟨k + 1, by omega, by go_num, HA3, Lib.hid (HM.out.drewN _)⟩
       case measure => simp [intOf]; omega
   · have hlt : decide ((k : Int) < (order.length : Int)) = false := by simp; omega
     have hlt2 : decide (k < order.length) = false := by simp; omega
     have HO1 := Lib.hid (show ∀ j : Nat, j < order.length → txnB (rd order (j : Int)) = true from fun j hj => HA.out j (by omega))
     clear HA
     go_wp2
     clear v2 hlt hlt2 hc hk HK1
     go_loopw [7] (fun x u => ∃ k : Nat, k ≤ ring.length ∧ x = .int .i64 (k : Int) ∧ Hid (∀ j : Nat, j < k → edgeB (rd_T32 ring (j : Int)) = true) ∧ Hid (InM [.string tenant, .int .i64 seq, .string prev, .string root, .int .i64 count, .int .i64 level, .bool accept, .slice A2 order.length c2, .int .i64 bk, .int .i64 bi, .int .i64 bj, .slice A6 ring.length c6, .slice A7 proofs.length c7] [.int .i64 level, .bool accept, .slice A2 order.length c2, .int .i64 bk, .int .i64 bi, .int .i64 bj, .slice A6 ring.length c6] w u)) (fun x _ => ring.length + 1 - (intOf x).toNat)
     case atStart => exact ⟨0, by omega, rfl, Lib.hid (fun j h => by omega), HM⟩
     case round =>
      clear HM
      obtain ⟨k, hk, rfl, HA, HM⟩ := hrel
      have v6 := HM.out.2.1.cell (i := 6) rfl
      by_cases hc : k < ring.length
      · have hlt : decide ((k : Int) < (ring.length : Int)) = true := by simp; omega
        have hlt2 : decide (k < ring.length) = true := by simp; omega
        obtain ⟨ad, rfl, y0, y1, y2, y3, y4⟩ := at_T32 (HG.out _ HM.out.2.2) (k : Int) (by omega) (by omega)
        simp only [Int.toNat_natCast] at y0 y1 y2 y3 y4
        have HK := Lib.hid (fun h => HK2.out h k hc)
        have HA2 := Lib.hid (fun (h : edgeB (rd_T32 ring (k : Int)) = true) (j : Nat) (hj : j < k + 1) => show edgeB (rd_T32 ring (j : Int)) = true from if e : j = k then by rw [e]; exact h else HA.out j (by omega))
        clear HA
        generalize rd_T32 ring (k : Int) = x at *
        obtain ⟨e0, e1, e2, e3, e4⟩ := x
        unfold edgeB at HK HA2
        dsimp only at HK HA2 y0 y1 y2 y3 y4
        have HT1 := Lib.hid (fun u => rtxn_any e1 u); have HT2 := Lib.hid (fun u => rtxn_any e2 u)
        have HP1 := Lib.hid (fun u => rplace_any e3 u); have HP2 := Lib.hid (fun u => rplace_any e4 u)
        generalize txnB e1 = a1 at *
        generalize txnB e2 = a2 at *
        generalize placeB e3 = a3 at *
        generalize placeB e4 = a4 at *
        have HB := Lib.hid (below_alloc HM.out.2.2 (.cells #[.int .i64 e0, .int .i64 e1, .int .i64 e2, .int .i64 e3, .int .i64 e4] 32))
        have HM2 := Lib.hid (HM.out.below (below_alloc (Below.refl _ _) (.cells #[.int .i64 e0, .int .i64 e1, .int .i64 e2, .int .i64 e3, .int .i64 e4] 32)))
        clear HM
        by_cases q1 : e0 < 1
        rotate_left
        have q1d := decide_eq_false q1
        by_cases q2 : 3 < e0
        rotate_left
        have q2d := decide_eq_false q2
        all_goals (cases a1; rotate_left; cases a2; rotate_left)
        all_goals (cases a3; rotate_left; cases a4; rotate_left)
        all_goals first
         | (have hq : r = false := (by cases r with | false => rfl | true => exact absurd (HK.out rfl) (by first | (simp; done) | (rw [decide_eq_false (by omega)]; simp; done)))
            subst hq
            clear HK HA2
            go_wp2_with (first | (go_at_call 78; first | (with_reducible refine (HT1.out _).mono ?_; rintro e u1 ⟨rfl, ⟨n3, rfl⟩⟩) | (with_reducible refine (HT2.out _).mono ?_; rintro e u2 ⟨rfl, ⟨n4, rfl⟩⟩)) | (go_at_call 77; first | (with_reducible refine (HP1.out _).mono ?_; rintro e u3 ⟨rfl, ⟨n5, rfl⟩⟩) | (with_reducible refine (HP2.out _).mono ?_; rintro e u4 ⟨rfl, ⟨n6, rfl⟩⟩)))
            go_ret
            exact ⟨by first | rfl | (simp; done) | (simp [*]; done) | (simp; omega), by repeat (first | exact HB.out | apply pw_below_drewN)⟩
            done)
         | (have HA3 := Lib.hid (HA2.out (by rw [decide_eq_true (by omega)]; rfl))
            clear HK HA2
            go_wp2_with (first | (go_at_call 78; first | (with_reducible refine (HT1.out _).mono ?_; rintro e u1 ⟨rfl, ⟨n3, rfl⟩⟩) | (with_reducible refine (HT2.out _).mono ?_; rintro e u2 ⟨rfl, ⟨n4, rfl⟩⟩)) | (go_at_call 77; first | (with_reducible refine (HP1.out _).mono ?_; rintro e u3 ⟨rfl, ⟨n5, rfl⟩⟩) | (with_reducible refine (HP2.out _).mono ?_; rintro e u4 ⟨rfl, ⟨n6, rfl⟩⟩)))
            go_roundw
            case rel => exact ⟨k + 1, by omega, by go_num, HA3, Lib.hid (HM2.out.drewN _)⟩
            case measure => simp [intOf]; omega)
      · have hlt : decide ((k : Int) < (ring.length : Int)) = false := by simp; omega
        have hlt2 : decide (k < ring.length) = false := by simp; omega
        have HO2 := Lib.hid (show ∀ j : Nat, j < ring.length → edgeB (rd_T32 ring (j : Int)) = true from fun j hj => HA.out j (by omega))
        clear HA
        go_wp2
        clear v6 hlt hlt2 hc hk HK2
        go_loopw [11] (fun x u => ∃ k : Nat, k ≤ proofs.length ∧ x = .int .i64 (k : Int) ∧ Hid (∀ j : Nat, j < k → prfB (rd_T55 proofs (j : Int)) = true) ∧ Hid (InM [.string tenant, .int .i64 seq, .string prev, .string root, .int .i64 count, .int .i64 level, .bool accept, .slice A2 order.length c2, .int .i64 bk, .int .i64 bi, .int .i64 bj, .slice A6 ring.length c6, .slice A7 proofs.length c7] [.int .i64 level, .bool accept, .slice A2 order.length c2, .int .i64 bk, .int .i64 bi, .int .i64 bj, .slice A6 ring.length c6] w u)) (fun x _ => proofs.length + 1 - (intOf x).toNat)
        case atStart => exact ⟨0, by omega, rfl, Lib.hid (fun j h => by omega), HM⟩
        case round =>
         clear HM
         obtain ⟨k, hk, rfl, HA, HM⟩ := hrel
         have v12 := HM.out.1.cell (i := 12) rfl
         obtain ⟨wn, rfl⟩ : ∃ wn : World, wn = wr := ⟨_, rfl⟩
         by_cases hc : k < proofs.length
         · have hlt : decide ((k : Int) < (proofs.length : Int)) = true := by simp; omega
           have hlt2 : decide (k < proofs.length) = true := by simp; omega
           obtain ⟨ad, A5, c5, rfl, y0, y1, y2, y3, y4, y5, l5, C5⟩ := at_T55 (HP.out _ HM.out.2.2) (k : Int) (by omega) (by omega)
           simp only [Int.toNat_natCast] at y0 y1 y2 y3 y4 y5
           have HK := Lib.hid (fun h => HK3.out h k hc)
           have HA2 := Lib.hid (fun (h : prfB (rd_T55 proofs (k : Int)) = true) (j : Nat) (hj : j < k + 1) => show prfB (rd_T55 proofs (j : Int)) = true from if e : j = k then by rw [e]; exact h else HA.out j (by omega))
           clear HA
           generalize rd_T55 proofs (k : Int) = x at *
           obtain ⟨x0, ⟨x1, x2, x3, x4⟩, x5⟩ := x
           unfold prfB at HK HA2
           dsimp only at HK HA2 y0 y1 y2 y3 y4 y5 l5 C5
           have HP0 := Lib.hid (fun u => rplace_any x0 u); have HE := Lib.hid (fun u => rev_any x1 x2 x3 x4 u)
           generalize placeB x0 = a1 at *
           generalize evB ⟨x1, x2, x3, x4⟩ = a2 at *
           have HW := Lib.hid (below_alloc (Below.refl wn.heap.size wn) (.cells #[.int .i64 x0, .int .i64 x1, .int .i64 x2, .string x3, .string x4, .slice A5 x5.length c5] 55))
           have HX := Lib.hid (RowIs.new wn 55 [.int .i64 x0, .int .i64 x1, .int .i64 x2, .string x3, .string x4, .slice A5 x5.length c5])
           have HC5 := Lib.hid C5
           clear C5
           cases a1
           · have hq : r = false := (by cases r with | false => rfl | true => exact absurd (HK.out rfl) (by simp))
             subst hq
             go_wp2_with (go_at_call 77; refine (HP0.out _).mono ?_; rintro e u1 ⟨rfl, ⟨n3, rfl⟩⟩)
             go_ret
             exact ⟨by first | rfl | (simp; done) | (simp [*]; done) | (simp; omega), below_step HM.out.2.2 (pw_below_drewN HW.out _)⟩
           cases a2
           · have hq : r = false := (by cases r with | false => rfl | true => exact absurd (HK.out rfl) (by simp))
             subst hq
             go_wp2_with (first | (go_at_call 77; refine (HP0.out _).mono ?_; rintro e u1 ⟨rfl, ⟨n3, rfl⟩⟩) | (go_at_call 29; refine (HE.out _).mono ?_; rintro e u2 ⟨rfl, hb⟩; have HW2 := Lib.hid (below_step (pw_below_drewN HW.out n3) hb); clear hb))
             go_ret
             exact ⟨by first | rfl | (simp; done) | (simp [*]; done) | (simp; omega), below_step HM.out.2.2 HW2.out⟩
           by_cases q1 : (12 : Int) < (x5.length : Int)
           · have hq : r = false := (by cases r with | false => rfl | true => exact absurd (HK.out rfl) (by rw [decide_eq_false (by omega)]; simp))
             subst hq
             go_wp2_with (first | (go_at_call 77; refine (HP0.out _).mono ?_; rintro e u1 ⟨rfl, ⟨n3, rfl⟩⟩) | (go_at_call 29; refine (HE.out _).mono ?_; rintro e u2 ⟨rfl, hb⟩; have HW2 := Lib.hid (below_step (pw_below_drewN HW.out n3) hb); have hx := (HX.out.drewN n3).below hb; have z5 := hx.cell (i := 5) rfl; clear hb hx))
             go_ret
             exact ⟨by first | rfl | (simp; done) | (simp [*]; done) | (simp; omega), below_step HM.out.2.2 HW2.out⟩
           have q1d := decide_eq_false q1
           have hl5 : x5.length ≤ 12 := by omega
           rw [decide_eq_true hl5] at HK HA2
           go_wp2_with (first | (go_at_call 77; refine (HP0.out _).mono ?_; rintro e u1 ⟨rfl, ⟨n3, rfl⟩⟩) | (go_at_call 29; refine (HE.out _).mono ?_; rintro e u2 ⟨rfl, hb⟩; have HW2 := Lib.hid (below_step (pw_below_drewN HW.out n3) hb); have hx := (HX.out.drewN n3).below hb; have HX2 := Lib.hid hx; have z5 := hx.cell (i := 5) rfl; clear hb hx))
           clear z5 y0 y1 y2 y3 y4 y5 v12 q1 q1d hlt hlt2
           have HM2 := Lib.hid (HM.out.below HW2.out)
           have HC6 := Lib.hid (Kd.C_below HC5.out HW2.out)
           clear HM HX HW HC5 HE HP0
           have HK4 := Lib.hid (fun h => (all_rd x5 ByteArray.empty (fun s => decide (s.size = 32))).1 (by simpa [sumsB] using HK.out h))
           clear HK
           go_loopw [14] (fun x v => ∃ j : Nat, j ≤ x5.length ∧ x = .int .i64 (j : Int) ∧ Hid (∀ i : Nat, i < j → decide ((x5.getD i ByteArray.empty).size = 32) = true) ∧ v = u2) (fun x _ => x5.length + 1 - (intOf x).toNat)
           case atStart => exact ⟨0, by omega, rfl, Lib.hid (fun j h => by omega), rfl⟩
           case round =>
            obtain ⟨j, hj, rfl, HA, rfl⟩ := hrel
            have z5 := HX2.out.cell (i := 5) rfl
            by_cases hd : j < x5.length
            · have hlt : decide ((j : Int) < (x5.length : Int)) = true := by simp; omega
              have hlt2 : decide (j < x5.length) = true := by simp; omega
              obtain ⟨ad5, rfl, y0⟩ := Kd.at_string HC6.out (j : Int) (by omega) (by omega)
              rw [Int.toNat_natCast] at y0
              rw [rdOf_nat] at y0
              have HK5 := Lib.hid (fun h => HK4.out h j hd)
              have HA3 := Lib.hid (fun (h : decide ((x5.getD j ByteArray.empty).size = 32) = true) (i : Nat) (hi : i < j + 1) => show decide ((x5.getD i ByteArray.empty).size = 32) = true from if e : i = j then by rw [e]; exact h else HA.out i (by omega))
              clear HA
              generalize x5.getD j ByteArray.empty = s at *
              by_cases hs : s.size = 32
              · have HA4 := Lib.hid (HA3.out (decide_eq_true hs))
                clear HA3 HK5
                go_wp2
                go_roundw
                case rel => exact ⟨j + 1, by omega, by go_num, HA4, trivial⟩
                case measure => simp [intOf]; omega
              · have hq : r = false := (by cases r with | false => rfl | true => exact absurd (HK5.out rfl) (by simp [hs]))
                subst hq
                have hs1 : ((s.size : Int) != 32) = true := bne_iff_ne.mpr (by omega)
                clear HA3 HK5
                go_wp2
                go_ret
                exact ⟨by first | rfl | (simp; done) | (simp [*]; done) | (simp; omega), HM2.out.2.2⟩
            · have hlt : decide ((j : Int) < (x5.length : Int)) = false := by simp; omega
              have hlt2 : decide (j < x5.length) = false := by simp; omega
              have HA3 := Lib.hid (HA2.out (by have h := (all_rd x5 ByteArray.empty (fun s => decide (s.size = 32))).2 (fun i hi => HA.out i (by omega)); simpa [sumsB] using h))
              clear HA HA2
              go_wp2
              go_roundw
              case rel => exact ⟨k + 1, by omega, by go_num, HA3, HM2⟩
              case measure => simp [intOf]; omega
         · have hlt : decide ((k : Int) < (proofs.length : Int)) = false := by simp; omega
           have hlt2 : decide (k < proofs.length) = false := by simp; omega
           have hq := HQ.out HO1.out HO2.out (fun j hj => HA.out j (by omega))
           subst hq
           clear HA
           go_wp2
           go_ret
           exact ⟨by first | rfl | (simp; done) | (simp [*]; done) | (simp; omega), HM.out.2.2⟩
end Go.Proofs.YtjlpjpjodhkpdaaGreatDoor
