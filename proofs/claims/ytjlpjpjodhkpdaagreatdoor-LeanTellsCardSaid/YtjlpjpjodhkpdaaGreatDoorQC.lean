import Derived.Test.YtjlpjpjodhkpdaaGreatDoorQA
set_option maxHeartbeats 8000000
set_option maxRecDepth 100000
namespace Go.Proofs.YtjlpjpjodhkpdaaGreatDoor.Q
open Go.RowKit Go.Proofs.YtjlpjpjodhkpdaaGreatDoorW.PrintWords Go.Proofs.YtjlpjpjodhkpdaaGreatDoorW.PrintLast
set_option linter.unusedVariables false
set_option linter.unusedSimpArgs false
attribute [local go_sem high] eqA53
/-! ### cartoucheref09_counts: function 119 -/
def cartoucheref09_counts.f (k : Nat) (l0 : List (S53)) (a1 : Int) : Option (Bool) := if a1 < 0 then (some false) else (if a1 ≥ (l0.length : Int) then (some false) else (if 0 ≤ a1 then (if a1 < (l0.length : Int) then (if ((rd_T53 l0 a1).f0) = 2 then ((cartoucheref08_End.f k l0 ((rd_T53 l0 a1).f1) (l0.length : Int)).bind fun t223 => (if t223 > a1 then (if 0 ≤ t223 then (if t223 < (l0.length : Int) then (some (((rd_T53 l0 t223).f0) == 4)) else (none)) else (none)) else (some false))) else (some false)) else (none)) else (none)))
theorem cartoucheref09_counts.mono : ∀ a0 a1 k, LeO (cartoucheref09_counts.f k a0 a1) (cartoucheref09_counts.f (k + 1) a0 a1) := by
 intro a0 a1 k
 unfold cartoucheref09_counts.f
 repeat' first
  | (with_reducible exact cartoucheref08_End.mono _ _ _ _)
  | (with_reducible exact LeO.refl _)
  | (with_reducible exact LeO.none _)
  | (with_reducible refine LeO.ite ?_ ?_)
  | (with_reducible refine LeO.bind ?_ (fun _ => ?_))
  | exact cartoucheref08_End.mono _ _ _ _
  | exact LeO.none _
  | refine LeO.ite ?_ ?_
  | refine LeO.bind ?_ (fun _ => ?_)
theorem cartoucheref09_counts.calls (k : Nat) (A0 : Option Addr) (c0 : Nat) (l0 : List (S53)) (a1 : Int) (r : Bool) (w : World) (hr0 : Kd.C k53 w A0 l0.length l0) (hc0 : l0.length ≤ c0) (h : cartoucheref09_counts.f k l0 a1 = some r) :
 Calls Tryz.prog 119 #[.slice A0 l0.length c0, .int .i64 a1] w fun e w' => e = .returned (.bool r) ∧ Drawn0 w w' := by
 have HR0 := Aside0.mk hr0
 have HC0 := Aside0.mk hc0
 clear hr0 hc0
 have H : (if a1 < 0 then (some false) else (if a1 ≥ (l0.length : Int) then (some false) else (if 0 ≤ a1 then (if a1 < (l0.length : Int) then (if ((rd_T53 l0 a1).f0) = 2 then ((cartoucheref08_End.f k l0 ((rd_T53 l0 a1).f1) (l0.length : Int)).bind fun t223 => (if t223 > a1 then (if 0 ≤ t223 then (if t223 < (l0.length : Int) then (some (((rd_T53 l0 t223).f0) == 4)) else (none)) else (none)) else (some false))) else (some false)) else (none)) else (none)))) = some r := h
 clear h
 by_cases c3 : a1 < 0
 · rw [if_pos c3] at H
   have c3b0 : decide (a1 < 0) = true := decide_eq_true c3
   clear c3
   obtain rfl := Option.some.inj H
   go_enter Tryz.func119, Tryz.ntmps119
   go_wp2
   go_ret
   exact ⟨by first | rfl | (simp; done) | (simp [*]; done), by repeat (first | exact Drawn0.refl _ | apply Drawn0.step)⟩
 · rw [if_neg c3] at H
   have c3b0 : decide (a1 < 0) = false := decide_eq_false c3
   clear c3
   by_cases c4 : a1 ≥ (l0.length : Int)
   · rw [if_pos c4] at H
     have c4b0 : decide ((l0.length : Int) ≤ a1) = true := decide_eq_true c4
     clear c4
     obtain rfl := Option.some.inj H
     go_enter Tryz.func119, Tryz.ntmps119
     go_wp2
     go_ret
     exact ⟨by first | rfl | (simp; done) | (simp [*]; done), by repeat (first | exact Drawn0.refl _ | apply Drawn0.step)⟩
   · rw [if_neg c4] at H
     have c4b0 : decide ((l0.length : Int) ≤ a1) = false := decide_eq_false c4
     clear c4
     by_cases c5 : 0 ≤ a1
     · rw [if_pos c5] at H
       have c5b0 : decide (0 ≤ a1) = true := decide_eq_true c5
       clear c5
       by_cases c6 : a1 < (l0.length : Int)
       · rw [if_pos c6] at H
         have c6b0 : decide (a1 < (l0.length : Int)) = true := decide_eq_true c6
         clear c6
         by_cases c7 : ((rd_T53 l0 a1).f0) = 2
         · rw [if_pos c7] at H
           have c7b0 : (((rd_T53 l0 a1).f0) == 2) = true := beq_iff_eq.mpr c7
           have c7b1 : (((rd_T53 l0 a1).f0) != 2) = false := bne_eq_false_iff_eq.mpr c7
           clear c7
           replace H := Option.bind_eq_some_iff.mp H
           obtain ⟨t223, A80, H⟩ := H
           try dsimp only [-dreduceIte] at H
           have A8 := Aside0.mk A80
           clear A80
           by_cases c9 : t223 > a1
           · rw [if_pos c9] at H
             have c9b0 : decide (a1 < t223) = true := decide_eq_true c9
             clear c9
             by_cases c10 : 0 ≤ t223
             · rw [if_pos c10] at H
               have c10b0 : decide (0 ≤ t223) = true := decide_eq_true c10
               clear c10
               by_cases c11 : t223 < (l0.length : Int)
               · rw [if_pos c11] at H
                 have c11b0 : decide (t223 < (l0.length : Int)) = true := decide_eq_true c11
                 clear c11
                 obtain rfl := Option.some.inj H
                 have p221 : 0 ≤ (a1 : Int) := of_decide_eq_true (by first | (with_reducible assumption) | assumption)
                 have q221 : a1 < (l0.length : Int) := of_decide_eq_true (by first | (with_reducible assumption) | assumption)
                 obtain ⟨ad221, e221, hx221_0, hx221_1, hx221_2, hx221_3⟩ := at_T53 HR0.out a1 p221 q221
                 cases e221
                 replace p221 := eq_true p221
                 replace q221 := eq_true q221
                 have p222 : 0 ≤ (a1 : Int) := of_decide_eq_true (by first | (with_reducible assumption) | assumption)
                 have q222 : a1 < (l0.length : Int) := of_decide_eq_true (by first | (with_reducible assumption) | assumption)
                 obtain ⟨ad222, e222, hx222_0, hx222_1, hx222_2, hx222_3⟩ := at_T53 HR0.out a1 p222 q222
                 obtain rfl : ad221 = ad222 := (by injection e222)
                 replace p222 := eq_true p222
                 replace q222 := eq_true q222
                 go_enter Tryz.func119, Tryz.ntmps119
                 go_wp2_with (first | ((with_reducible refine look_callee (f := 47) rfl ?_); refine goesL_ (some 30) rfl rfl Tryz.func47 (by kernel_rfl) rfl #[.slice (some ad221) l0.length c0, .int .i64 ((rd_T53 l0 a1).f1), .int .i64 (l0.length : Int)] rfl (by (try simp only [List.map_toArray, List.map_cons, List.map_nil]); first | done | rfl | (simp only [List.length_drop, List.length_take]; rfl)) ?_; (with_reducible refine (cartoucheref08_End.calls k _ _ l0 ((rd_T53 l0 a1).f1) (l0.length : Int) t223 _ ?side1 ?side2 A8.out).mono ?_); (case side1 => repeat (first | exact HR0.out | (with_reducible refine Kd.C_alloc ?_ _) | (with_reducible refine Kd.C_drewN ?_ _) | (with_reducible refine Kd.C_drew ?_))); (case side2 => exact HC0.out); rintro e w' ⟨rfl, ⟨nd, rfl⟩⟩; refine ⟨_, rfl, ?_⟩; have p224 : 0 ≤ (t223 : Int) := of_decide_eq_true (by first | (with_reducible assumption) | assumption); have q224 : t223 < (l0.length : Int) := of_decide_eq_true (by first | (with_reducible assumption) | assumption); obtain ⟨ad224, e224, hx224_0, hx224_1, hx224_2, hx224_3⟩ := at_T53 HR0.out t223 p224 q224; obtain rfl : ad221 = ad224 := (by injection e224); replace p224 := eq_true p224; replace q224 := eq_true q224))
                 go_ret
                 exact ⟨by first | rfl | (simp; done) | (simp [*]; done), by repeat (first | exact Drawn0.refl _ | apply Drawn0.step)⟩
               · rw [if_neg c11] at H
                 exact absurd H (by simp)
             · rw [if_neg c10] at H
               exact absurd H (by simp)
           · rw [if_neg c9] at H
             have c9b0 : decide (a1 < t223) = false := decide_eq_false c9
             clear c9
             obtain rfl := Option.some.inj H
             have p221 : 0 ≤ (a1 : Int) := of_decide_eq_true (by first | (with_reducible assumption) | assumption)
             have q221 : a1 < (l0.length : Int) := of_decide_eq_true (by first | (with_reducible assumption) | assumption)
             obtain ⟨ad221, e221, hx221_0, hx221_1, hx221_2, hx221_3⟩ := at_T53 HR0.out a1 p221 q221
             cases e221
             replace p221 := eq_true p221
             replace q221 := eq_true q221
             have p222 : 0 ≤ (a1 : Int) := of_decide_eq_true (by first | (with_reducible assumption) | assumption)
             have q222 : a1 < (l0.length : Int) := of_decide_eq_true (by first | (with_reducible assumption) | assumption)
             obtain ⟨ad222, e222, hx222_0, hx222_1, hx222_2, hx222_3⟩ := at_T53 HR0.out a1 p222 q222
             obtain rfl : ad221 = ad222 := (by injection e222)
             replace p222 := eq_true p222
             replace q222 := eq_true q222
             go_enter Tryz.func119, Tryz.ntmps119
             go_wp2_with (first | ((with_reducible refine look_callee (f := 47) rfl ?_); refine goesL_ (some 30) rfl rfl Tryz.func47 (by kernel_rfl) rfl #[.slice (some ad221) l0.length c0, .int .i64 ((rd_T53 l0 a1).f1), .int .i64 (l0.length : Int)] rfl (by (try simp only [List.map_toArray, List.map_cons, List.map_nil]); first | done | rfl | (simp only [List.length_drop, List.length_take]; rfl)) ?_; (with_reducible refine (cartoucheref08_End.calls k _ _ l0 ((rd_T53 l0 a1).f1) (l0.length : Int) t223 _ ?side1 ?side2 A8.out).mono ?_); (case side1 => repeat (first | exact HR0.out | (with_reducible refine Kd.C_alloc ?_ _) | (with_reducible refine Kd.C_drewN ?_ _) | (with_reducible refine Kd.C_drew ?_))); (case side2 => exact HC0.out); rintro e w' ⟨rfl, ⟨nd, rfl⟩⟩; refine ⟨_, rfl, ?_⟩))
             go_ret
             exact ⟨by first | rfl | (simp; done) | (simp [*]; done), by repeat (first | exact Drawn0.refl _ | apply Drawn0.step)⟩
         · rw [if_neg c7] at H
           have c7b0 : (((rd_T53 l0 a1).f0) == 2) = false := beq_eq_false_iff_ne.mpr c7
           have c7b1 : (((rd_T53 l0 a1).f0) != 2) = true := bne_iff_ne.mpr c7
           obtain rfl := Option.some.inj H
           have p221 : 0 ≤ (a1 : Int) := of_decide_eq_true (by first | (with_reducible assumption) | assumption)
           have q221 : a1 < (l0.length : Int) := of_decide_eq_true (by first | (with_reducible assumption) | assumption)
           obtain ⟨ad221, e221, hx221_0, hx221_1, hx221_2, hx221_3⟩ := at_T53 HR0.out a1 p221 q221
           cases e221
           replace p221 := eq_true p221
           replace q221 := eq_true q221
           go_enter Tryz.func119, Tryz.ntmps119
           go_wp2
           go_ret
           exact ⟨by first | rfl | (simp; done) | (simp [*]; done), by repeat (first | exact Drawn0.refl _ | apply Drawn0.step)⟩
       · rw [if_neg c6] at H
         exact absurd H (by simp)
     · rw [if_neg c5] at H
       exact absurd H (by simp)
mutual
def cartoucheref08_Last.l0 : Nat → List (S53) → Int → ByteArray → Int → Int → Int → Option (Int)
 | 0, _, _, _, _, _, _ => none
 | k + 1, x0, x1, x2, x3, x9, x10 => if x10 < (x0.length : Int) then (cartoucheref08_Last.j1 k x0 x1 x2 x3 x9 x10 (decide (x10 < x3))) else (cartoucheref08_Last.j1 k x0 x1 x2 x3 x9 x10 false)
def cartoucheref08_Last.j1 : Nat → List (S53) → Int → ByteArray → Int → Int → Int → Bool → Option (Int)
 | 0, _, _, _, _, _, _, _ => none
 | k + 1, x0, x1, x2, x3, x9, x10, x19 => if x19 = true then (if 0 ≤ x10 then (if x10 < (x0.length : Int) then (if ((rd_T53 x0 x10).f0) = 3 then (if ((rd_T53 x0 x10).f1) = x1 then (if ((rd_T53 x0 x10).f2).toList = x2.toList then (cartoucheref08_Last.l0 k x0 x1 x2 x3 x10 (wrap64 (x10 + 1))) else (cartoucheref08_Last.l0 k x0 x1 x2 x3 x9 (wrap64 (x10 + 1)))) else (cartoucheref08_Last.l0 k x0 x1 x2 x3 x9 (wrap64 (x10 + 1)))) else (cartoucheref08_Last.l0 k x0 x1 x2 x3 x9 (wrap64 (x10 + 1)))) else (none)) else (none)) else (some x9)
end
def cartoucheref08_Last.f (k : Nat) (l0 : List (S53)) (a1 : Int) (a2 : ByteArray) (a3 : Int) : Option (Int) := cartoucheref08_Last.l0 k l0 a1 a2 a3 (-1) 0
theorem cartoucheref08_Last.mono_l : ∀ k, (∀ y0 y1 y2 y3 y4 y5, LeO (cartoucheref08_Last.l0 k y0 y1 y2 y3 y4 y5) (cartoucheref08_Last.l0 (k + 1) y0 y1 y2 y3 y4 y5)) ∧ (∀ y0 y1 y2 y3 y4 y5 y6, LeO (cartoucheref08_Last.j1 k y0 y1 y2 y3 y4 y5 y6) (cartoucheref08_Last.j1 (k + 1) y0 y1 y2 y3 y4 y5 y6))
 | 0 => ⟨fun _ _ _ _ _ _ r h => by simp [cartoucheref08_Last.l0] at h, fun _ _ _ _ _ _ _ r h => by simp [cartoucheref08_Last.j1] at h⟩
 | k + 1 => by
    obtain ⟨ih0, ih1⟩ := cartoucheref08_Last.mono_l k
    refine ⟨?_, ?_⟩
    · intro y0 y1 y2 y3 y4 y5
      unfold cartoucheref08_Last.l0
      repeat' first
      | (with_reducible exact ih0 _ _ _ _ _ _)
      | (with_reducible exact ih1 _ _ _ _ _ _ _)
      | (with_reducible exact LeO.refl _)
      | (with_reducible exact LeO.none _)
      | (with_reducible refine LeO.ite ?_ ?_)
      | (with_reducible refine LeO.bind ?_ (fun _ => ?_))
      | exact ih0 _ _ _ _ _ _
      | exact ih1 _ _ _ _ _ _ _
      | exact LeO.none _
      | refine LeO.ite ?_ ?_
      | refine LeO.bind ?_ (fun _ => ?_)
    · intro y0 y1 y2 y3 y4 y5 y6
      unfold cartoucheref08_Last.j1
      repeat' first
      | (with_reducible exact ih0 _ _ _ _ _ _)
      | (with_reducible exact ih1 _ _ _ _ _ _ _)
      | (with_reducible exact LeO.refl _)
      | (with_reducible exact LeO.none _)
      | (with_reducible refine LeO.ite ?_ ?_)
      | (with_reducible refine LeO.bind ?_ (fun _ => ?_))
      | exact ih0 _ _ _ _ _ _
      | exact ih1 _ _ _ _ _ _ _
      | exact LeO.none _
      | refine LeO.ite ?_ ?_
      | refine LeO.bind ?_ (fun _ => ?_)
theorem cartoucheref08_Last.mono : ∀ a0 a1 a2 a3 k, LeO (cartoucheref08_Last.f k a0 a1 a2 a3) (cartoucheref08_Last.f (k + 1) a0 a1 a2 a3) := by
 intro a0 a1 a2 a3 k
 obtain ⟨ih0, ih1⟩ := cartoucheref08_Last.mono_l k
 unfold cartoucheref08_Last.f
 repeat' first
  | (with_reducible exact ih0 _ _ _ _ _ _)
  | (with_reducible exact ih1 _ _ _ _ _ _ _)
  | (with_reducible exact LeO.refl _)
  | (with_reducible exact LeO.none _)
  | (with_reducible refine LeO.ite ?_ ?_)
  | (with_reducible refine LeO.bind ?_ (fun _ => ?_))
  | exact ih0 _ _ _ _ _ _
  | exact ih1 _ _ _ _ _ _ _
  | exact LeO.none _
  | refine LeO.ite ?_ ?_
  | refine LeO.bind ?_ (fun _ => ?_)
theorem cartoucheref08_Last.calls (k : Nat) (A0 : Option Addr) (c0 : Nat) (l0 : List (S53)) (a1 : Int) (a2 : ByteArray) (a3 : Int) (r : Int) (w : World) (hr0 : Kd.C k53 w A0 l0.length l0) (hc0 : l0.length ≤ c0) (h : cartoucheref08_Last.f k l0 a1 a2 a3 = some r) :
 Calls Tryz.prog 120 #[.slice A0 l0.length c0, .int .i64 a1, .string a2, .int .i64 a3] w fun e w' => e = .returned (.int .i64 r) ∧ Drawn0 w w' := by
 have HR0 := Aside0.mk hr0
 have HC0 := Aside0.mk hc0
 clear hr0 hc0
 have H : (cartoucheref08_Last.l0 k l0 a1 a2 a3 (-1) 0) = some r := h
 clear h
 have H' := Aside0.mk H
 clear H
 go_enter Tryz.func120, Tryz.ntmps120
 go_wp2
 go_loopg [9, 10] k (fun kq v9 v10 w' => ∃ (x9_1 : Int) (x10_1 : Int), v9 = .int .i64 x9_1 ∧ v10 = .int .i64 x10_1 ∧ Aside0 (cartoucheref08_Last.l0 kq l0 a1 a2 a3 x9_1 x10_1 = some r) ∧ Aside0 (kq ≤ k) ∧ Drawn0 w w')
 case atStart => exact ⟨((-1)), (0), (by first | rfl | (simp; done) | (simp [*]; done)), (by first | rfl | (simp; done) | (simp [*]; done)), H', ⟨Nat.le_refl _⟩, by repeat (first | exact Drawn0.refl _ | apply Drawn0.step)⟩
 case round =>
  clear H'
  try clear c1
  try clear p2
  obtain ⟨x9_1, x10_1, rfl, rfl, HA, HK1, ⟨m1, rfl⟩⟩ := hrel
  cases gk with
  | zero => exact absurd HA.out (by simp [cartoucheref08_Last.l0])
  | succ k1 =>
     have H := HA.out
     clear HA
     simp only [cartoucheref08_Last.l0] at H
     have HC5 := Aside0.mk H
     clear H
     go_upto_region 3 with (fail)
     go_cut [19] (fun v19 wc => ∃ (kq : Nat) (x19_4 : Bool), v19 = .bool x19_4 ∧ Aside0 (cartoucheref08_Last.j1 kq l0 a1 a2 a3 x9_1 x10_1 x19_4 = some r) ∧ Aside0 (kq ≤ k1) ∧ Drawn0 w wc)
     case first =>
      have H := HC5.out
      clear HC5
      by_cases c6 : x10_1 < (l0.length : Int)
      · rw [if_pos c6] at H
        have c6b0 : decide (x10_1 < (l0.length : Int)) = true := decide_eq_true c6
        clear c6
        (first | rw [c6b0] | (simp only [i64_w, i32_w]; rw [c6b0]) | skip)
        have H' := Aside0.mk H
        clear H
        go_wp2
        go_meet
        case rel => exact ⟨_, (decide (x10_1 < a3)), (by first | rfl | (simp; done) | (simp [*]; done)), H', ⟨by have := HK1.out; first | omega | exact Nat.le_refl _⟩, by repeat (first | exact Drawn0.refl _ | apply Drawn0.step)⟩
      · rw [if_neg c6] at H
        have c6b0 : decide (x10_1 < (l0.length : Int)) = false := decide_eq_false c6
        clear c6
        (first | rw [c6b0] | (simp only [i64_w, i32_w]; rw [c6b0]) | skip)
        have H' := Aside0.mk H
        clear H
        go_wp2
        go_meet
        case rel => exact ⟨_, (false), (by first | rfl | (simp; done) | (simp [*]; done)), H', ⟨by have := HK1.out; first | omega | exact Nat.le_refl _⟩, by repeat (first | exact Drawn0.refl _ | apply Drawn0.step)⟩
     case rest =>
      clear HC5
      try clear c1
      try clear p2
      try clear c6
      try clear c6b0
      try clear p2
      obtain ⟨kq, x19_4, rfl, HA, HJ4, ⟨mc4, rfl⟩⟩ := hcut
      cases kq with
      | zero => exact absurd HA.out (by simp [cartoucheref08_Last.j1])
      | succ kj4 =>
         have H := HA.out
         clear HA
         simp only [cartoucheref08_Last.j1] at H
         by_cases c7 : x19_4 = true
         · subst c7
           rw [if_pos rfl] at H
           by_cases c8 : 0 ≤ x10_1
           · rw [if_pos c8] at H
             have c8b0 : decide (0 ≤ x10_1) = true := decide_eq_true c8
             clear c8
             by_cases c9 : x10_1 < (l0.length : Int)
             · rw [if_pos c9] at H
               have c9b0 : decide (x10_1 < (l0.length : Int)) = true := decide_eq_true c9
               clear c9
               by_cases c10 : ((rd_T53 l0 x10_1).f0) = 3
               · rw [if_pos c10] at H
                 have c10b0 : (((rd_T53 l0 x10_1).f0) == 3) = true := beq_iff_eq.mpr c10
                 have c10b1 : (((rd_T53 l0 x10_1).f0) != 3) = false := bne_eq_false_iff_eq.mpr c10
                 clear c10
                 by_cases c11 : ((rd_T53 l0 x10_1).f1) = a1
                 · rw [if_pos c11] at H
                   have c11b0 : (((rd_T53 l0 x10_1).f1) == a1) = true := beq_iff_eq.mpr c11
                   have c11b1 : (((rd_T53 l0 x10_1).f1) != a1) = false := bne_eq_false_iff_eq.mpr c11
                   clear c11
                   by_cases c12 : ((rd_T53 l0 x10_1).f2).toList = a2.toList
                   · rw [if_pos c12] at H
                     have c12b0 : (((rd_T53 l0 x10_1).f2).toList == a2.toList) = true := beq_iff_eq.mpr c12
                     have c12b1 : (((rd_T53 l0 x10_1).f2).toList != a2.toList) = false := bne_eq_false_iff_eq.mpr c12
                     clear c12
                     have H' := Aside0.mk H
                     clear H
                     have p225 : 0 ≤ (x10_1 : Int) := of_decide_eq_true (by first | (with_reducible assumption) | assumption)
                     have q225 : x10_1 < (l0.length : Int) := of_decide_eq_true (by first | (with_reducible assumption) | assumption)
                     obtain ⟨ad225, e225, hx225_0, hx225_1, hx225_2, hx225_3⟩ := at_T53 HR0.out x10_1 p225 q225
                     cases e225
                     replace p225 := eq_true p225
                     replace q225 := eq_true q225
                     have p226 : 0 ≤ (x10_1 : Int) := of_decide_eq_true (by first | (with_reducible assumption) | assumption)
                     have q226 : x10_1 < (l0.length : Int) := of_decide_eq_true (by first | (with_reducible assumption) | assumption)
                     obtain ⟨ad226, e226, hx226_0, hx226_1, hx226_2, hx226_3⟩ := at_T53 HR0.out x10_1 p226 q226
                     obtain rfl : ad225 = ad226 := (by injection e226)
                     replace p226 := eq_true p226
                     replace q226 := eq_true q226
                     have p227 : 0 ≤ (x10_1 : Int) := of_decide_eq_true (by first | (with_reducible assumption) | assumption)
                     have q227 : x10_1 < (l0.length : Int) := of_decide_eq_true (by first | (with_reducible assumption) | assumption)
                     obtain ⟨ad227, e227, hx227_0, hx227_1, hx227_2, hx227_3⟩ := at_T53 HR0.out x10_1 p227 q227
                     obtain rfl : ad225 = ad227 := (by injection e227)
                     replace p227 := eq_true p227
                     replace q227 := eq_true q227
                     go_wp2
                     go_roundg kj4
                     case measure => have := HK1.out; have := HJ4.out; omega
                     case rel => exact ⟨(x10_1), (wrap64 (x10_1 + 1)), (by first | rfl | (simp; done) | (simp [*]; done)), (by first | rfl | (simp; done) | (simp [*]; done)), H', ⟨by have := HK1.out; have := HJ4.out; omega⟩, by repeat (first | exact Drawn0.refl _ | apply Drawn0.step)⟩
                   · rw [if_neg c12] at H
                     have c12b0 : (((rd_T53 l0 x10_1).f2).toList == a2.toList) = false := beq_eq_false_iff_ne.mpr c12
                     have c12b1 : (((rd_T53 l0 x10_1).f2).toList != a2.toList) = true := bne_iff_ne.mpr c12
                     have H' := Aside0.mk H
                     clear H
                     have p225 : 0 ≤ (x10_1 : Int) := of_decide_eq_true (by first | (with_reducible assumption) | assumption)
                     have q225 : x10_1 < (l0.length : Int) := of_decide_eq_true (by first | (with_reducible assumption) | assumption)
                     obtain ⟨ad225, e225, hx225_0, hx225_1, hx225_2, hx225_3⟩ := at_T53 HR0.out x10_1 p225 q225
                     cases e225
                     replace p225 := eq_true p225
                     replace q225 := eq_true q225
                     have p226 : 0 ≤ (x10_1 : Int) := of_decide_eq_true (by first | (with_reducible assumption) | assumption)
                     have q226 : x10_1 < (l0.length : Int) := of_decide_eq_true (by first | (with_reducible assumption) | assumption)
                     obtain ⟨ad226, e226, hx226_0, hx226_1, hx226_2, hx226_3⟩ := at_T53 HR0.out x10_1 p226 q226
                     obtain rfl : ad225 = ad226 := (by injection e226)
                     replace p226 := eq_true p226
                     replace q226 := eq_true q226
                     have p227 : 0 ≤ (x10_1 : Int) := of_decide_eq_true (by first | (with_reducible assumption) | assumption)
                     have q227 : x10_1 < (l0.length : Int) := of_decide_eq_true (by first | (with_reducible assumption) | assumption)
                     obtain ⟨ad227, e227, hx227_0, hx227_1, hx227_2, hx227_3⟩ := at_T53 HR0.out x10_1 p227 q227
                     obtain rfl : ad225 = ad227 := (by injection e227)
                     replace p227 := eq_true p227
                     replace q227 := eq_true q227
                     go_wp2
                     go_roundg kj4
                     case measure => have := HK1.out; have := HJ4.out; omega
                     case rel => exact ⟨(x9_1), (wrap64 (x10_1 + 1)), (by first | rfl | (simp; done) | (simp [*]; done)), (by first | rfl | (simp; done) | (simp [*]; done)), H', ⟨by have := HK1.out; have := HJ4.out; omega⟩, by repeat (first | exact Drawn0.refl _ | apply Drawn0.step)⟩
                 · rw [if_neg c11] at H
                   have c11b0 : (((rd_T53 l0 x10_1).f1) == a1) = false := beq_eq_false_iff_ne.mpr c11
                   have c11b1 : (((rd_T53 l0 x10_1).f1) != a1) = true := bne_iff_ne.mpr c11
                   have H' := Aside0.mk H
                   clear H
                   have p225 : 0 ≤ (x10_1 : Int) := of_decide_eq_true (by first | (with_reducible assumption) | assumption)
                   have q225 : x10_1 < (l0.length : Int) := of_decide_eq_true (by first | (with_reducible assumption) | assumption)
                   obtain ⟨ad225, e225, hx225_0, hx225_1, hx225_2, hx225_3⟩ := at_T53 HR0.out x10_1 p225 q225
                   cases e225
                   replace p225 := eq_true p225
                   replace q225 := eq_true q225
                   have p226 : 0 ≤ (x10_1 : Int) := of_decide_eq_true (by first | (with_reducible assumption) | assumption)
                   have q226 : x10_1 < (l0.length : Int) := of_decide_eq_true (by first | (with_reducible assumption) | assumption)
                   obtain ⟨ad226, e226, hx226_0, hx226_1, hx226_2, hx226_3⟩ := at_T53 HR0.out x10_1 p226 q226
                   obtain rfl : ad225 = ad226 := (by injection e226)
                   replace p226 := eq_true p226
                   replace q226 := eq_true q226
                   go_wp2
                   go_roundg kj4
                   case measure => have := HK1.out; have := HJ4.out; omega
                   case rel => exact ⟨(x9_1), (wrap64 (x10_1 + 1)), (by first | rfl | (simp; done) | (simp [*]; done)), (by first | rfl | (simp; done) | (simp [*]; done)), H', ⟨by have := HK1.out; have := HJ4.out; omega⟩, by repeat (first | exact Drawn0.refl _ | apply Drawn0.step)⟩
               · rw [if_neg c10] at H
                 have c10b0 : (((rd_T53 l0 x10_1).f0) == 3) = false := beq_eq_false_iff_ne.mpr c10
                 have c10b1 : (((rd_T53 l0 x10_1).f0) != 3) = true := bne_iff_ne.mpr c10
                 have H' := Aside0.mk H
                 clear H
                 have p225 : 0 ≤ (x10_1 : Int) := of_decide_eq_true (by first | (with_reducible assumption) | assumption)
                 have q225 : x10_1 < (l0.length : Int) := of_decide_eq_true (by first | (with_reducible assumption) | assumption)
                 obtain ⟨ad225, e225, hx225_0, hx225_1, hx225_2, hx225_3⟩ := at_T53 HR0.out x10_1 p225 q225
                 cases e225
                 replace p225 := eq_true p225
                 replace q225 := eq_true q225
                 go_wp2
                 go_roundg kj4
                 case measure => have := HK1.out; have := HJ4.out; omega
                 case rel => exact ⟨(x9_1), (wrap64 (x10_1 + 1)), (by first | rfl | (simp; done) | (simp [*]; done)), (by first | rfl | (simp; done) | (simp [*]; done)), H', ⟨by have := HK1.out; have := HJ4.out; omega⟩, by repeat (first | exact Drawn0.refl _ | apply Drawn0.step)⟩
             · rw [if_neg c9] at H
               exact absurd H (by simp)
           · rw [if_neg c8] at H
             exact absurd H (by simp)
         · replace c7 := Bool.eq_false_iff.mpr c7
           subst c7
           rw [if_neg (show ¬ (false = true) by decide)] at H
           obtain rfl := Option.some.inj H
           go_wp2
           go_ret
           exact ⟨by first | rfl | (simp; done) | (simp [*]; done), by repeat (first | exact Drawn0.refl _ | apply Drawn0.step)⟩
mutual
def cartoucheref08_Versions.l0 : Nat → List (S53) → ByteArray → List Int → Int → Option (List Int)
 | 0, _, _, _, _ => none
 | k + 1, x0, x1, x5, x6 => if x6 < (x0.length : Int) then (if 0 ≤ x6 then (if ((rd_T53 x0 x6).f0) = 4 then ((cartoucheref08_End.f k x0 ((rd_T53 x0 x6).f1) (x0.length : Int)).bind fun t323 => (cartoucheref08_Versions.j1 k x0 x1 x5 x6 (t323 != x6))) else (cartoucheref08_Versions.j1 k x0 x1 x5 x6 true)) else (none)) else (some x5)
def cartoucheref08_Versions.j1 : Nat → List (S53) → ByteArray → List Int → Int → Bool → Option (List Int)
 | 0, _, _, _, _, _ => none
 | k + 1, x0, x1, x5, x6, x32 => if x32 = true then (cartoucheref08_Versions.l0 k x0 x1 x5 (wrap64 (x6 + 1))) else (if 0 ≤ x6 then (if x6 < (x0.length : Int) then ((cartoucheref08_Last.f k x0 ((rd_T53 x0 x6).f1) x1 x6).bind fun t325 => (if t325 ≥ 0 then (if x5.length < 17592186044416 then (cartoucheref08_Versions.l0 k x0 x1 (x5 ++ [t325]) (wrap64 (x6 + 1))) else (none)) else (cartoucheref08_Versions.l0 k x0 x1 x5 (wrap64 (x6 + 1))))) else (none)) else (none))
end
def cartoucheref08_Versions.f (k : Nat) (l0 : List (S53)) (a1 : ByteArray) : Option (List Int) := cartoucheref08_Versions.l0 k l0 a1 ([] : List Int) 0
theorem cartoucheref08_Versions.mono_l : ∀ k, (∀ y0 y1 y2 y3, LeO (cartoucheref08_Versions.l0 k y0 y1 y2 y3) (cartoucheref08_Versions.l0 (k + 1) y0 y1 y2 y3)) ∧ (∀ y0 y1 y2 y3 y4, LeO (cartoucheref08_Versions.j1 k y0 y1 y2 y3 y4) (cartoucheref08_Versions.j1 (k + 1) y0 y1 y2 y3 y4))
 | 0 => ⟨fun _ _ _ _ r h => by simp [cartoucheref08_Versions.l0] at h, fun _ _ _ _ _ r h => by simp [cartoucheref08_Versions.j1] at h⟩
 | k + 1 => by
    obtain ⟨ih0, ih1⟩ := cartoucheref08_Versions.mono_l k
    refine ⟨?_, ?_⟩
    · intro y0 y1 y2 y3
      unfold cartoucheref08_Versions.l0
      repeat' first
      | (with_reducible exact ih0 _ _ _ _)
      | (with_reducible exact ih1 _ _ _ _ _)
      | (with_reducible exact cartoucheref08_End.mono _ _ _ _)
      | (with_reducible exact cartoucheref08_Last.mono _ _ _ _ _)
      | (with_reducible exact LeO.refl _)
      | (with_reducible exact LeO.none _)
      | (with_reducible refine LeO.ite ?_ ?_)
      | (with_reducible refine LeO.bind ?_ (fun _ => ?_))
      | exact ih0 _ _ _ _
      | exact ih1 _ _ _ _ _
      | exact cartoucheref08_End.mono _ _ _ _
      | exact cartoucheref08_Last.mono _ _ _ _ _
      | exact LeO.none _
      | refine LeO.ite ?_ ?_
      | refine LeO.bind ?_ (fun _ => ?_)
    · intro y0 y1 y2 y3 y4
      unfold cartoucheref08_Versions.j1
      repeat' first
      | (with_reducible exact ih0 _ _ _ _)
      | (with_reducible exact ih1 _ _ _ _ _)
      | (with_reducible exact cartoucheref08_End.mono _ _ _ _)
      | (with_reducible exact cartoucheref08_Last.mono _ _ _ _ _)
      | (with_reducible exact LeO.refl _)
      | (with_reducible exact LeO.none _)
      | (with_reducible refine LeO.ite ?_ ?_)
      | (with_reducible refine LeO.bind ?_ (fun _ => ?_))
      | exact ih0 _ _ _ _
      | exact ih1 _ _ _ _ _
      | exact cartoucheref08_End.mono _ _ _ _
      | exact cartoucheref08_Last.mono _ _ _ _ _
      | exact LeO.none _
      | refine LeO.ite ?_ ?_
      | refine LeO.bind ?_ (fun _ => ?_)
theorem cartoucheref08_Versions.mono : ∀ a0 a1 k, LeO (cartoucheref08_Versions.f k a0 a1) (cartoucheref08_Versions.f (k + 1) a0 a1) := by
 intro a0 a1 k
 obtain ⟨ih0, ih1⟩ := cartoucheref08_Versions.mono_l k
 unfold cartoucheref08_Versions.f
 repeat' first
  | (with_reducible exact ih0 _ _ _ _)
  | (with_reducible exact ih1 _ _ _ _ _)
  | (with_reducible exact cartoucheref08_End.mono _ _ _ _)
  | (with_reducible exact cartoucheref08_Last.mono _ _ _ _ _)
  | (with_reducible exact LeO.refl _)
  | (with_reducible exact LeO.none _)
  | (with_reducible refine LeO.ite ?_ ?_)
  | (with_reducible refine LeO.bind ?_ (fun _ => ?_))
  | exact ih0 _ _ _ _
  | exact ih1 _ _ _ _ _
  | exact cartoucheref08_End.mono _ _ _ _
  | exact cartoucheref08_Last.mono _ _ _ _ _
  | exact LeO.none _
  | refine LeO.ite ?_ ?_
  | refine LeO.bind ?_ (fun _ => ?_)
theorem cartoucheref08_Versions.calls (k : Nat) (A0 : Option Addr) (c0 : Nat) (l0 : List (S53)) (a1 : ByteArray) (r : List Int) (w : World) (hr0 : Kd.C k53 w A0 l0.length l0) (hc0 : l0.length ≤ c0) (h : cartoucheref08_Versions.f k l0 a1 = some r) :
 Calls Tryz.prog 91 #[.slice A0 l0.length c0, .string a1] w fun e w' => ∃ v0_ : Value, e = .returned (v0_) ∧ Kd.R (Kd.int .i64) 3 w' w.heap.size (fun _ => True) v0_ r ∧ Below w.heap.size w w' := by
 have HR0 := Aside0.mk hr0
 have HC0 := Aside0.mk hc0
 clear hr0 hc0
 have HB := Aside0.mk (Below.refl w.heap.size w)
 have H : (cartoucheref08_Versions.l0 k l0 a1 ([] : List Int) 0) = some r := h
 clear h
 have H' := Aside0.mk H
 clear H
 go_enter Tryz.func91, Tryz.ntmps91
 go_wp2
 go_loopg [5, 6] k (fun kq v5 v6 w' => ∃ (x5_1 : List Int) (x6_1 : Int), v6 = .int .i64 x6_1 ∧ Aside0 (cartoucheref08_Versions.l0 kq l0 a1 x5_1 x6_1 = some r) ∧ Aside0 (kq ≤ k) ∧ Aside0 (Kd.R (Kd.int .i64) 3 w' w.heap.size (fun _ => True) v5 x5_1) ∧ Aside0 (Below w.heap.size w w'))
 case atStart => exact ⟨(([] : List Int)), (0), (by first | rfl | (simp; done) | (simp [*]; done)), H', ⟨Nat.le_refl _⟩, ⟨by first | exact Kd.R_nil _ _ _ _ _ | exact Kd.N_nil _ _ _ _ _ | exact Kd.V_nil _ _ _ _ _ | exact Kd.Q_nil _ _ _ _ _ | exact Kd.S_nil _ _ _ _ _⟩, ⟨by repeat (first | (with_reducible first | exact HB.out | apply below_alloc | apply pw_below_drewN | apply below_drew1) | exact HB.out)⟩⟩
 case round =>
  clear H'
  try clear p2
  obtain ⟨x5_1, x6_1, rfl, HA, HK1, HO_5, HB⟩ := hrel
  cases gk with
  | zero => exact absurd HA.out (by simp [cartoucheref08_Versions.l0])
  | succ k1 =>
     have H := HA.out
     clear HA
     simp only [cartoucheref08_Versions.l0] at H
     by_cases c3 : x6_1 < (l0.length : Int)
     · rw [if_pos c3] at H
       have c3b0 : decide (x6_1 < (l0.length : Int)) = true := decide_eq_true c3
       clear c3
       have HC4 := Aside0.mk H
       clear H
       go_upto_region 5 with (fail)
       go_cut [32] (fun v32 wc => ∃ (kq : Nat) (x32_3 : Bool), v32 = .bool x32_3 ∧ Aside0 (cartoucheref08_Versions.j1 kq l0 a1 x5_1 x6_1 x32_3 = some r) ∧ Aside0 (kq ≤ k1) ∧ Aside0 (Kd.R (Kd.int .i64) 3 wc w.heap.size (fun _ => True) u5 x5_1) ∧ Aside0 (Below w.heap.size w wc))
       case first =>
        have H := HC4.out
        clear HC4
        by_cases c5 : 0 ≤ x6_1
        · rw [if_pos c5] at H
          have c5b0 : decide (0 ≤ x6_1) = true := decide_eq_true c5
          clear c5
          (first | rw [c5b0] | (simp only [i64_w, i32_w]; rw [c5b0]) | skip)
          by_cases c6 : ((rd_T53 l0 x6_1).f0) = 4
          · rw [if_pos c6] at H
            have c6b0 : (((rd_T53 l0 x6_1).f0) == 4) = true := beq_iff_eq.mpr c6
            have c6b1 : (((rd_T53 l0 x6_1).f0) != 4) = false := bne_eq_false_iff_eq.mpr c6
            clear c6
            replace H := Option.bind_eq_some_iff.mp H
            obtain ⟨t323, A70, H⟩ := H
            try dsimp only [-dreduceIte] at H
            have A7 := Aside0.mk A70
            clear A70
            have H' := Aside0.mk H
            clear H
            have p321 : 0 ≤ (x6_1 : Int) := of_decide_eq_true (by first | (with_reducible assumption) | assumption)
            have q321 : x6_1 < (l0.length : Int) := of_decide_eq_true (by first | (with_reducible assumption) | assumption)
            obtain ⟨ad321, e321, hx321_0, hx321_1, hx321_2, hx321_3⟩ := at_T53 HR0.out x6_1 p321 q321
            cases e321
            replace hx321_0 := (HB.out.cell (World.block_lt_of_cell? w _ hx321_0)).trans hx321_0
            replace hx321_1 := (HB.out.cell (World.block_lt_of_cell? w _ hx321_1)).trans hx321_1
            replace hx321_2 := (HB.out.cell (World.block_lt_of_cell? w _ hx321_2)).trans hx321_2
            replace hx321_3 := (HB.out.cell (World.block_lt_of_cell? w _ hx321_3)).trans hx321_3
            replace p321 := eq_true p321
            replace q321 := eq_true q321
            have p322 : 0 ≤ (x6_1 : Int) := of_decide_eq_true (by first | (with_reducible assumption) | assumption)
            have q322 : x6_1 < (l0.length : Int) := of_decide_eq_true (by first | (with_reducible assumption) | assumption)
            obtain ⟨ad322, e322, hx322_0, hx322_1, hx322_2, hx322_3⟩ := at_T53 HR0.out x6_1 p322 q322
            obtain rfl : ad321 = ad322 := (by injection e322)
            replace hx322_0 := (HB.out.cell (World.block_lt_of_cell? w _ hx322_0)).trans hx322_0
            replace hx322_1 := (HB.out.cell (World.block_lt_of_cell? w _ hx322_1)).trans hx322_1
            replace hx322_2 := (HB.out.cell (World.block_lt_of_cell? w _ hx322_2)).trans hx322_2
            replace hx322_3 := (HB.out.cell (World.block_lt_of_cell? w _ hx322_3)).trans hx322_3
            replace p322 := eq_true p322
            replace q322 := eq_true q322
            go_wp2_with (first | (go_at_call 47; (with_reducible refine (cartoucheref08_End.calls k1 _ _ l0 ((rd_T53 l0 x6_1).f1) (l0.length : Int) t323 _ ?side1 ?side2 A7.out).mono ?_); (case side1 => repeat (first | exact (Kd.C_below HR0.out HB.out) | (with_reducible refine Kd.C_alloc ?_ _) | (with_reducible refine Kd.C_drewN ?_ _) | (with_reducible refine Kd.C_drew ?_))); (case side2 => exact HC0.out); rintro e w' ⟨rfl, ⟨nd, rfl⟩⟩))
            go_meet
            case rel => exact ⟨_, ((t323 != x6_1)), (by first | rfl | (simp; done) | (simp [*]; done)), H', ⟨by have := HK1.out; first | omega | exact Nat.le_refl _⟩, ⟨by (with_reducible repeat (first | apply Kd.R_alloc | apply Kd.R_drewN | apply Kd.R_drew)); exact HO_5.out⟩, ⟨by repeat (first | (with_reducible first | exact HB.out | apply below_alloc | apply pw_below_drewN | apply below_drew1) | exact HB.out)⟩⟩
          · rw [if_neg c6] at H
            have c6b0 : (((rd_T53 l0 x6_1).f0) == 4) = false := beq_eq_false_iff_ne.mpr c6
            have c6b1 : (((rd_T53 l0 x6_1).f0) != 4) = true := bne_iff_ne.mpr c6
            have H' := Aside0.mk H
            clear H
            have p321 : 0 ≤ (x6_1 : Int) := of_decide_eq_true (by first | (with_reducible assumption) | assumption)
            have q321 : x6_1 < (l0.length : Int) := of_decide_eq_true (by first | (with_reducible assumption) | assumption)
            obtain ⟨ad321, e321, hx321_0, hx321_1, hx321_2, hx321_3⟩ := at_T53 HR0.out x6_1 p321 q321
            cases e321
            replace hx321_0 := (HB.out.cell (World.block_lt_of_cell? w _ hx321_0)).trans hx321_0
            replace hx321_1 := (HB.out.cell (World.block_lt_of_cell? w _ hx321_1)).trans hx321_1
            replace hx321_2 := (HB.out.cell (World.block_lt_of_cell? w _ hx321_2)).trans hx321_2
            replace hx321_3 := (HB.out.cell (World.block_lt_of_cell? w _ hx321_3)).trans hx321_3
            replace p321 := eq_true p321
            replace q321 := eq_true q321
            go_wp2
            go_meet
            case rel => exact ⟨_, (true), (by first | rfl | (simp; done) | (simp [*]; done)), H', ⟨by have := HK1.out; first | omega | exact Nat.le_refl _⟩, ⟨by (with_reducible repeat (first | apply Kd.R_alloc | apply Kd.R_drewN | apply Kd.R_drew)); exact HO_5.out⟩, ⟨by repeat (first | (with_reducible first | exact HB.out | apply below_alloc | apply pw_below_drewN | apply below_drew1) | exact HB.out)⟩⟩
        · rw [if_neg c5] at H
          exact absurd H (by simp)
       case rest =>
        clear HC4
        try clear p2
        try clear c3
        try clear c3b0
        try clear p3
        try clear q3
        try clear hx3
        try clear c5
        try clear c5b0
        try clear c6
        try clear c6b0
        try clear c6b1
        try clear hx321_0
        try clear hx321_1
        try clear hx321_2
        try clear hx321_3
        try clear hx322_0
        try clear hx322_1
        try clear hx322_2
        try clear hx322_3
        try clear p2
        try clear p321
        try clear p322
        try clear q321
        try clear q322
        obtain ⟨kq, x32_3, rfl, HA, HJ3, HO_5, HB⟩ := hcut
        cases kq with
        | zero => exact absurd HA.out (by simp [cartoucheref08_Versions.j1])
        | succ kj3 =>
           have H := HA.out
           clear HA
           simp only [cartoucheref08_Versions.j1] at H
           by_cases c8 : x32_3 = true
           · subst c8
             rw [if_pos rfl] at H
             have H' := Aside0.mk H
             clear H
             go_wp2
             go_roundg kj3
             case measure => have := HK1.out; have := HJ3.out; omega
             case rel => exact ⟨(x5_1), (wrap64 (x6_1 + 1)), (by first | rfl | (simp; done) | (simp [*]; done)), H', ⟨by have := HK1.out; have := HJ3.out; omega⟩, ⟨by (with_reducible repeat (first | apply Kd.R_alloc | apply Kd.R_drewN | apply Kd.R_drew)); exact HO_5.out⟩, ⟨by repeat (first | (with_reducible first | exact HB.out | apply below_alloc | apply pw_below_drewN | apply below_drew1) | exact HB.out)⟩⟩
           · replace c8 := Bool.eq_false_iff.mpr c8
             subst c8
             rw [if_neg (show ¬ (false = true) by decide)] at H
             by_cases c9 : 0 ≤ x6_1
             · rw [if_pos c9] at H
               have c9b0 : decide (0 ≤ x6_1) = true := decide_eq_true c9
               clear c9
               by_cases c10 : x6_1 < (l0.length : Int)
               · rw [if_pos c10] at H
                 have c10b0 : decide (x6_1 < (l0.length : Int)) = true := decide_eq_true c10
                 clear c10
                 replace H := Option.bind_eq_some_iff.mp H
                 obtain ⟨t325, A110, H⟩ := H
                 try dsimp only [-dreduceIte] at H
                 have A11 := Aside0.mk A110
                 clear A110
                 by_cases c12 : t325 ≥ 0
                 · rw [if_pos c12] at H
                   have c12b0 : decide (0 ≤ t325) = true := decide_eq_true c12
                   clear c12
                   by_cases c13 : x5_1.length < 17592186044416
                   · rw [if_pos c13] at H
                     have LMc13 := Aside0.mk c13
                     clear c13
                     obtain ⟨y326, hy326⟩ : ∃ y_ : List Int, y_ = (x5_1 ++ [t325]) := ⟨_, rfl⟩
                     replace H : (cartoucheref08_Versions.l0 kj3 l0 a1 y326 (wrap64 (x6_1 + 1))) = some r := by first | (rw [hy326]; with_reducible exact H) | (have H2_ := (Option.bind_some _ _).symm.trans H; rw [hy326]; with_reducible exact H2_) | (have H2_ := (Option.bind_some _ _).symm.trans H; with_reducible exact H2_) | with_reducible exact H | (rw [hy326]; exact H) | exact H
                     have Ny326 := Aside0.mk hy326
                     clear hy326
                     have H' := Aside0.mk H
                     clear H
                     have p324 : 0 ≤ (x6_1 : Int) := of_decide_eq_true (by first | (with_reducible assumption) | assumption)
                     have q324 : x6_1 < (l0.length : Int) := of_decide_eq_true (by first | (with_reducible assumption) | assumption)
                     obtain ⟨ad324, e324, hx324_0, hx324_1, hx324_2, hx324_3⟩ := at_T53 HR0.out x6_1 p324 q324
                     cases e324
                     replace hx324_0 := (HB.out.cell (World.block_lt_of_cell? w _ hx324_0)).trans hx324_0
                     replace hx324_1 := (HB.out.cell (World.block_lt_of_cell? w _ hx324_1)).trans hx324_1
                     replace hx324_2 := (HB.out.cell (World.block_lt_of_cell? w _ hx324_2)).trans hx324_2
                     replace hx324_3 := (HB.out.cell (World.block_lt_of_cell? w _ hx324_3)).trans hx324_3
                     replace p324 := eq_true p324
                     replace q324 := eq_true q324
                     go_wp2_with (first | ((with_reducible refine look_callee (f := 120) rfl ?_); refine goesL_ (some 41) rfl rfl Tryz.func120 (by kernel_rfl) rfl #[.slice (some ad324) l0.length c0, .int .i64 ((rd_T53 l0 x6_1).f1), .string a1, .int .i64 x6_1] rfl (by (try simp only [List.map_toArray, List.map_cons, List.map_nil]); first | done | rfl | (simp only [List.length_drop, List.length_take]; rfl)) ?_; (with_reducible refine (cartoucheref08_Last.calls kj3 _ _ l0 ((rd_T53 l0 x6_1).f1) a1 x6_1 t325 _ ?side1 ?side2 A11.out).mono ?_); (case side1 => repeat (first | exact (Kd.C_below HR0.out HB.out) | (with_reducible refine Kd.C_alloc ?_ _) | (with_reducible refine Kd.C_drewN ?_ _) | (with_reducible refine Kd.C_drew ?_))); (case side2 => exact HC0.out); rintro e w' ⟨rfl, ⟨nd, rfl⟩⟩; refine ⟨_, rfl, ?_⟩) | ((with_reducible refine look_builtin (b := .append) (xs := #[.tmp 44, .tmp 46]) rfl ?_); (try (refine gate_guard (by rfl) ?_; dsimp only)); at_builtin; refine Kd.R_append (Kd.int .i64) (w0 := w) w.heap.size rfl (.tmp 44) (.tmp 46) 22 3 (.int .i64 0) 8 rfl Tryz.underlying22 info3 rfl (by decide) (by omega) u5 x5_1 t325 [.int .i64 t325] (fun _ => True) (fun _ => False) rfl rfl ?aP (fun _ hk => hk.elim) ?aF ?aO ?aB ?aS ?aL ?_; (case aP => exact rfl); (case aB => exact (by repeat (first | (with_reducible first | exact HB.out | apply below_alloc | apply pw_below_drewN | apply below_drew1) | exact HB.out))); (case aF => exact (fun _ _ => trivial)); (case aO => exact (by (with_reducible repeat (first | apply Kd.R_alloc | apply Kd.R_drewN | apply Kd.R_drew)); exact HO_5.out)); (case aS => exact (below_size (by repeat (first | (with_reducible first | exact HB.out | apply below_alloc | apply pw_below_drewN | apply below_drew1) | exact HB.out)))); (case aL => have := LMc13.out; omega); intro v327 w14 ho hb hg hat; rw [← Ny326.out] at ho; have n0_ := Aside0.mk (hb); have n1_ := Aside0.mk (ho); clear HB; clear HO_5; have HB := n0_; have HO328 := n1_; clear n0_ n1_; clear ho hb hg hat))
                     go_roundg kj3
                     case measure => have := HK1.out; have := HJ3.out; omega
                     case rel => exact ⟨(y326), (wrap64 (x6_1 + 1)), (by first | rfl | (simp; done) | (simp [*]; done)), H', ⟨by have := HK1.out; have := HJ3.out; omega⟩, ⟨by (with_reducible repeat (first | apply Kd.R_alloc | apply Kd.R_drewN | apply Kd.R_drew)); exact HO328.out⟩, ⟨by repeat (first | (with_reducible first | exact HB.out | apply below_alloc | apply pw_below_drewN | apply below_drew1) | exact HB.out)⟩⟩
                   · rw [if_neg c13] at H
                     exact absurd H (by simp)
                 · rw [if_neg c12] at H
                   have c12b0 : decide (0 ≤ t325) = false := decide_eq_false c12
                   clear c12
                   have H' := Aside0.mk H
                   clear H
                   have p324 : 0 ≤ (x6_1 : Int) := of_decide_eq_true (by first | (with_reducible assumption) | assumption)
                   have q324 : x6_1 < (l0.length : Int) := of_decide_eq_true (by first | (with_reducible assumption) | assumption)
                   obtain ⟨ad324, e324, hx324_0, hx324_1, hx324_2, hx324_3⟩ := at_T53 HR0.out x6_1 p324 q324
                   cases e324
                   replace hx324_0 := (HB.out.cell (World.block_lt_of_cell? w _ hx324_0)).trans hx324_0
                   replace hx324_1 := (HB.out.cell (World.block_lt_of_cell? w _ hx324_1)).trans hx324_1
                   replace hx324_2 := (HB.out.cell (World.block_lt_of_cell? w _ hx324_2)).trans hx324_2
                   replace hx324_3 := (HB.out.cell (World.block_lt_of_cell? w _ hx324_3)).trans hx324_3
                   replace p324 := eq_true p324
                   replace q324 := eq_true q324
                   go_wp2_with (first | ((with_reducible refine look_callee (f := 120) rfl ?_); refine goesL_ (some 41) rfl rfl Tryz.func120 (by kernel_rfl) rfl #[.slice (some ad324) l0.length c0, .int .i64 ((rd_T53 l0 x6_1).f1), .string a1, .int .i64 x6_1] rfl (by (try simp only [List.map_toArray, List.map_cons, List.map_nil]); first | done | rfl | (simp only [List.length_drop, List.length_take]; rfl)) ?_; (with_reducible refine (cartoucheref08_Last.calls kj3 _ _ l0 ((rd_T53 l0 x6_1).f1) a1 x6_1 t325 _ ?side1 ?side2 A11.out).mono ?_); (case side1 => repeat (first | exact (Kd.C_below HR0.out HB.out) | (with_reducible refine Kd.C_alloc ?_ _) | (with_reducible refine Kd.C_drewN ?_ _) | (with_reducible refine Kd.C_drew ?_))); (case side2 => exact HC0.out); rintro e w' ⟨rfl, ⟨nd, rfl⟩⟩; refine ⟨_, rfl, ?_⟩))
                   go_roundg kj3
                   case measure => have := HK1.out; have := HJ3.out; omega
                   case rel => exact ⟨(x5_1), (wrap64 (x6_1 + 1)), (by first | rfl | (simp; done) | (simp [*]; done)), H', ⟨by have := HK1.out; have := HJ3.out; omega⟩, ⟨by (with_reducible repeat (first | apply Kd.R_alloc | apply Kd.R_drewN | apply Kd.R_drew)); exact HO_5.out⟩, ⟨by repeat (first | (with_reducible first | exact HB.out | apply below_alloc | apply pw_below_drewN | apply below_drew1) | exact HB.out)⟩⟩
               · rw [if_neg c10] at H
                 exact absurd H (by simp)
             · rw [if_neg c9] at H
               exact absurd H (by simp)
     · rw [if_neg c3] at H
       have c3b0 : decide (x6_1 < (l0.length : Int)) = false := decide_eq_false c3
       clear c3
       obtain rfl := Option.some.inj H
       go_wp2
       go_ret
       exact ⟨_, by first | rfl | (simp [errW_none, errW_some] <;> rfl) | (simp [*, errW_none, errW_some] <;> rfl), by (with_reducible repeat (first | apply Kd.R_alloc | apply Kd.R_drewN | apply Kd.R_drew)); exact HO_5.out, by repeat (first | (with_reducible first | exact HB.out | apply below_alloc | apply pw_below_drewN | apply below_drew1) | exact HB.out)⟩
def cartoucheref09_Outer.f (k : Nat) (l0 : List (S53)) (a1 : Int) : Option (Bool) := (cartoucheref09_counts.f k l0 a1).bind fun t329 => (if t329 = true then (if 0 ≤ a1 then (if a1 < (l0.length : Int) then ((cartoucheref08_Last.f k l0 ((rd_T53 l0 a1).f1) ((rd_T53 l0 a1).f2) a1).bind fun t332 => (some (decide (t332 < 0)))) else (none)) else (none)) else (some false))
theorem cartoucheref09_Outer.mono : ∀ a0 a1 k, LeO (cartoucheref09_Outer.f k a0 a1) (cartoucheref09_Outer.f (k + 1) a0 a1) := by
 intro a0 a1 k
 unfold cartoucheref09_Outer.f
 repeat' first
  | (with_reducible exact cartoucheref08_Last.mono _ _ _ _ _)
  | (with_reducible exact cartoucheref09_counts.mono _ _ _)
  | (with_reducible exact LeO.refl _)
  | (with_reducible exact LeO.none _)
  | (with_reducible refine LeO.ite ?_ ?_)
  | (with_reducible refine LeO.bind ?_ (fun _ => ?_))
  | exact cartoucheref08_Last.mono _ _ _ _ _
  | exact cartoucheref09_counts.mono _ _ _
  | exact LeO.none _
  | refine LeO.ite ?_ ?_
  | refine LeO.bind ?_ (fun _ => ?_)
theorem cartoucheref09_Outer.calls (k : Nat) (A0 : Option Addr) (c0 : Nat) (l0 : List (S53)) (a1 : Int) (r : Bool) (w : World) (hr0 : Kd.C k53 w A0 l0.length l0) (hc0 : l0.length ≤ c0) (h : cartoucheref09_Outer.f k l0 a1 = some r) :
 Calls Tryz.prog 92 #[.slice A0 l0.length c0, .int .i64 a1] w fun e w' => e = .returned (.bool r) ∧ Drawn0 w w' := by
 have HR0 := Aside0.mk hr0
 have HC0 := Aside0.mk hc0
 clear hr0 hc0
 have H : ((cartoucheref09_counts.f k l0 a1).bind fun t329 => (if t329 = true then (if 0 ≤ a1 then (if a1 < (l0.length : Int) then ((cartoucheref08_Last.f k l0 ((rd_T53 l0 a1).f1) ((rd_T53 l0 a1).f2) a1).bind fun t332 => (some (decide (t332 < 0)))) else (none)) else (none)) else (some false))) = some r := h
 clear h
 replace H := Option.bind_eq_some_iff.mp H
 obtain ⟨t329, A30, H⟩ := H
 try dsimp only [-dreduceIte] at H
 have A3 := Aside0.mk A30
 clear A30
 by_cases c4 : t329 = true
 · subst c4
   rw [if_pos rfl] at H
   by_cases c5 : 0 ≤ a1
   · rw [if_pos c5] at H
     have c5b0 : decide (0 ≤ a1) = true := decide_eq_true c5
     clear c5
     by_cases c6 : a1 < (l0.length : Int)
     · rw [if_pos c6] at H
       have c6b0 : decide (a1 < (l0.length : Int)) = true := decide_eq_true c6
       clear c6
       replace H := Option.bind_eq_some_iff.mp H
       obtain ⟨t332, A70, H⟩ := H
       try dsimp only [-dreduceIte] at H
       have A7 := Aside0.mk A70
       clear A70
       obtain rfl := Option.some.inj H
       go_enter Tryz.func92, Tryz.ntmps92
       go_wp2_with (first | (go_at_call 119; (with_reducible refine (cartoucheref09_counts.calls k _ _ l0 a1 true _ ?side1 ?side2 A3.out).mono ?_); (case side1 => repeat (first | exact HR0.out | (with_reducible refine Kd.C_alloc ?_ _) | (with_reducible refine Kd.C_drewN ?_ _) | (with_reducible refine Kd.C_drew ?_))); (case side2 => exact HC0.out); rintro e w' ⟨rfl, ⟨nd, rfl⟩⟩; (try first | exact ⟨rfl, _, World.drewN_drewN _ _ _⟩ | exact ⟨rfl, _, Eq.trans (World.drewN_drewN _ _ _) (congrArg (World.drewN _) (Nat.add_assoc _ _ _))⟩); have p330 : 0 ≤ (a1 : Int) := of_decide_eq_true (by first | (with_reducible assumption) | assumption); have q330 : a1 < (l0.length : Int) := of_decide_eq_true (by first | (with_reducible assumption) | assumption); obtain ⟨ad330, e330, hx330_0, hx330_1, hx330_2, hx330_3⟩ := at_T53 HR0.out a1 p330 q330; cases e330; replace p330 := eq_true p330; replace q330 := eq_true q330; have p331 : 0 ≤ (a1 : Int) := of_decide_eq_true (by first | (with_reducible assumption) | assumption); have q331 : a1 < (l0.length : Int) := of_decide_eq_true (by first | (with_reducible assumption) | assumption); obtain ⟨ad331, e331, hx331_0, hx331_1, hx331_2, hx331_3⟩ := at_T53 HR0.out a1 p331 q331; obtain rfl : ad330 = ad331 := (by injection e331); replace p331 := eq_true p331; replace q331 := eq_true q331) | (go_at_call 120; (with_reducible refine (cartoucheref08_Last.calls k _ _ l0 ((rd_T53 l0 a1).f1) ((rd_T53 l0 a1).f2) a1 t332 _ ?side1 ?side2 A7.out).mono ?_); (case side1 => repeat (first | exact HR0.out | (with_reducible refine Kd.C_alloc ?_ _) | (with_reducible refine Kd.C_drewN ?_ _) | (with_reducible refine Kd.C_drew ?_))); (case side2 => exact HC0.out); rintro e w' ⟨rfl, ⟨nd, rfl⟩⟩; (try first | exact ⟨rfl, _, World.drewN_drewN _ _ _⟩ | exact ⟨rfl, _, Eq.trans (World.drewN_drewN _ _ _) (congrArg (World.drewN _) (Nat.add_assoc _ _ _))⟩)))
       repeat (go_quiet (first | (go_at_call 119; (with_reducible refine (cartoucheref09_counts.calls k _ _ l0 a1 true _ ?side1 ?side2 A3.out).mono ?_); (case side1 => repeat (first | exact HR0.out | (with_reducible refine Kd.C_alloc ?_ _) | (with_reducible refine Kd.C_drewN ?_ _) | (with_reducible refine Kd.C_drew ?_))); (case side2 => exact HC0.out); rintro e w' ⟨rfl, ⟨nd, rfl⟩⟩; (try first | exact ⟨rfl, _, World.drewN_drewN _ _ _⟩ | exact ⟨rfl, _, Eq.trans (World.drewN_drewN _ _ _) (congrArg (World.drewN _) (Nat.add_assoc _ _ _))⟩); have p330 : 0 ≤ (a1 : Int) := of_decide_eq_true (by first | (with_reducible assumption) | assumption); have q330 : a1 < (l0.length : Int) := of_decide_eq_true (by first | (with_reducible assumption) | assumption); obtain ⟨ad330, e330, hx330_0, hx330_1, hx330_2, hx330_3⟩ := at_T53 HR0.out a1 p330 q330; cases e330; replace p330 := eq_true p330; replace q330 := eq_true q330; have p331 : 0 ≤ (a1 : Int) := of_decide_eq_true (by first | (with_reducible assumption) | assumption); have q331 : a1 < (l0.length : Int) := of_decide_eq_true (by first | (with_reducible assumption) | assumption); obtain ⟨ad331, e331, hx331_0, hx331_1, hx331_2, hx331_3⟩ := at_T53 HR0.out a1 p331 q331; obtain rfl : ad330 = ad331 := (by injection e331); replace p331 := eq_true p331; replace q331 := eq_true q331) | (go_at_call 120; (with_reducible refine (cartoucheref08_Last.calls k _ _ l0 ((rd_T53 l0 a1).f1) ((rd_T53 l0 a1).f2) a1 t332 _ ?side1 ?side2 A7.out).mono ?_); (case side1 => repeat (first | exact HR0.out | (with_reducible refine Kd.C_alloc ?_ _) | (with_reducible refine Kd.C_drewN ?_ _) | (with_reducible refine Kd.C_drew ?_))); (case side2 => exact HC0.out); rintro e w' ⟨rfl, ⟨nd, rfl⟩⟩; (try first | exact ⟨rfl, _, World.drewN_drewN _ _ _⟩ | exact ⟨rfl, _, Eq.trans (World.drewN_drewN _ _ _) (congrArg (World.drewN _) (Nat.add_assoc _ _ _))⟩))); try go_wp2_with (first | (go_at_call 119; (with_reducible refine (cartoucheref09_counts.calls k _ _ l0 a1 true _ ?side1 ?side2 A3.out).mono ?_); (case side1 => repeat (first | exact HR0.out | (with_reducible refine Kd.C_alloc ?_ _) | (with_reducible refine Kd.C_drewN ?_ _) | (with_reducible refine Kd.C_drew ?_))); (case side2 => exact HC0.out); rintro e w' ⟨rfl, ⟨nd, rfl⟩⟩; (try first | exact ⟨rfl, _, World.drewN_drewN _ _ _⟩ | exact ⟨rfl, _, Eq.trans (World.drewN_drewN _ _ _) (congrArg (World.drewN _) (Nat.add_assoc _ _ _))⟩); have p330 : 0 ≤ (a1 : Int) := of_decide_eq_true (by first | (with_reducible assumption) | assumption); have q330 : a1 < (l0.length : Int) := of_decide_eq_true (by first | (with_reducible assumption) | assumption); obtain ⟨ad330, e330, hx330_0, hx330_1, hx330_2, hx330_3⟩ := at_T53 HR0.out a1 p330 q330; cases e330; replace p330 := eq_true p330; replace q330 := eq_true q330; have p331 : 0 ≤ (a1 : Int) := of_decide_eq_true (by first | (with_reducible assumption) | assumption); have q331 : a1 < (l0.length : Int) := of_decide_eq_true (by first | (with_reducible assumption) | assumption); obtain ⟨ad331, e331, hx331_0, hx331_1, hx331_2, hx331_3⟩ := at_T53 HR0.out a1 p331 q331; obtain rfl : ad330 = ad331 := (by injection e331); replace p331 := eq_true p331; replace q331 := eq_true q331) | (go_at_call 120; (with_reducible refine (cartoucheref08_Last.calls k _ _ l0 ((rd_T53 l0 a1).f1) ((rd_T53 l0 a1).f2) a1 t332 _ ?side1 ?side2 A7.out).mono ?_); (case side1 => repeat (first | exact HR0.out | (with_reducible refine Kd.C_alloc ?_ _) | (with_reducible refine Kd.C_drewN ?_ _) | (with_reducible refine Kd.C_drew ?_))); (case side2 => exact HC0.out); rintro e w' ⟨rfl, ⟨nd, rfl⟩⟩; (try first | exact ⟨rfl, _, World.drewN_drewN _ _ _⟩ | exact ⟨rfl, _, Eq.trans (World.drewN_drewN _ _ _) (congrArg (World.drewN _) (Nat.add_assoc _ _ _))⟩))))
       go_ret
       exact ⟨by first | rfl | (simp; done) | (simp [*]; done), by repeat (first | exact Drawn0.refl _ | apply Drawn0.step)⟩
     · rw [if_neg c6] at H
       exact absurd H (by simp)
   · rw [if_neg c5] at H
     exact absurd H (by simp)
 · replace c4 := Bool.eq_false_iff.mpr c4
   subst c4
   rw [if_neg (show ¬ (false = true) by decide)] at H
   obtain rfl := Option.some.inj H
   go_enter Tryz.func92, Tryz.ntmps92
   go_wp2_with (first | (go_at_call 119; (with_reducible refine (cartoucheref09_counts.calls k _ _ l0 a1 false _ ?side1 ?side2 A3.out).mono ?_); (case side1 => repeat (first | exact HR0.out | (with_reducible refine Kd.C_alloc ?_ _) | (with_reducible refine Kd.C_drewN ?_ _) | (with_reducible refine Kd.C_drew ?_))); (case side2 => exact HC0.out); rintro e w' ⟨rfl, ⟨nd, rfl⟩⟩; (try first | exact ⟨rfl, _, World.drewN_drewN _ _ _⟩ | exact ⟨rfl, _, Eq.trans (World.drewN_drewN _ _ _) (congrArg (World.drewN _) (Nat.add_assoc _ _ _))⟩)))
   repeat (go_quiet (first | (go_at_call 119; (with_reducible refine (cartoucheref09_counts.calls k _ _ l0 a1 false _ ?side1 ?side2 A3.out).mono ?_); (case side1 => repeat (first | exact HR0.out | (with_reducible refine Kd.C_alloc ?_ _) | (with_reducible refine Kd.C_drewN ?_ _) | (with_reducible refine Kd.C_drew ?_))); (case side2 => exact HC0.out); rintro e w' ⟨rfl, ⟨nd, rfl⟩⟩; (try first | exact ⟨rfl, _, World.drewN_drewN _ _ _⟩ | exact ⟨rfl, _, Eq.trans (World.drewN_drewN _ _ _) (congrArg (World.drewN _) (Nat.add_assoc _ _ _))⟩))); try go_wp2_with (first | (go_at_call 119; (with_reducible refine (cartoucheref09_counts.calls k _ _ l0 a1 false _ ?side1 ?side2 A3.out).mono ?_); (case side1 => repeat (first | exact HR0.out | (with_reducible refine Kd.C_alloc ?_ _) | (with_reducible refine Kd.C_drewN ?_ _) | (with_reducible refine Kd.C_drew ?_))); (case side2 => exact HC0.out); rintro e w' ⟨rfl, ⟨nd, rfl⟩⟩; (try first | exact ⟨rfl, _, World.drewN_drewN _ _ _⟩ | exact ⟨rfl, _, Eq.trans (World.drewN_drewN _ _ _) (congrArg (World.drewN _) (Nat.add_assoc _ _ _))⟩))))
   go_ret
   exact ⟨by first | rfl | (simp; done) | (simp [*]; done), by repeat (first | exact Drawn0.refl _ | apply Drawn0.step)⟩
def cartoucheref11_has.l0 : Nat → List Int → Int → Int → Option (Bool)
 | 0, _, _, _ => none
 | k + 1, x0, x1, x5 => if x5 < (x0.length : Int) then (if 0 ≤ x5 then (if (rd x0 x5) = x1 then (some true) else (cartoucheref11_has.l0 k x0 x1 (wrap64 (x5 + 1)))) else (none)) else (some false)
def cartoucheref11_has.f (k : Nat) (l0 : List Int) (a1 : Int) : Option (Bool) := cartoucheref11_has.l0 k l0 a1 0
theorem cartoucheref11_has.mono_l : ∀ k, (∀ y0 y1 y2, LeO (cartoucheref11_has.l0 k y0 y1 y2) (cartoucheref11_has.l0 (k + 1) y0 y1 y2))
 | 0 => fun _ _ _ r h => by simp [cartoucheref11_has.l0] at h
 | k + 1 => by
    have ih0 := cartoucheref11_has.mono_l k
    · intro y0 y1 y2
      unfold cartoucheref11_has.l0
      repeat' first
      | (with_reducible exact ih0 _ _ _)
      | (with_reducible exact LeO.refl _)
      | (with_reducible exact LeO.none _)
      | (with_reducible refine LeO.ite ?_ ?_)
      | (with_reducible refine LeO.bind ?_ (fun _ => ?_))
      | exact ih0 _ _ _
      | exact LeO.none _
      | refine LeO.ite ?_ ?_
      | refine LeO.bind ?_ (fun _ => ?_)
theorem cartoucheref11_has.mono : ∀ a0 a1 k, LeO (cartoucheref11_has.f k a0 a1) (cartoucheref11_has.f (k + 1) a0 a1) := by
 intro a0 a1 k
 have ih0 := cartoucheref11_has.mono_l k
 unfold cartoucheref11_has.f
 repeat' first
  | (with_reducible exact ih0 _ _ _)
  | (with_reducible exact LeO.refl _)
  | (with_reducible exact LeO.none _)
  | (with_reducible refine LeO.ite ?_ ?_)
  | (with_reducible refine LeO.bind ?_ (fun _ => ?_))
  | exact ih0 _ _ _
  | exact LeO.none _
  | refine LeO.ite ?_ ?_
  | refine LeO.bind ?_ (fun _ => ?_)
theorem cartoucheref11_has.calls (k : Nat) (A0 : Option Addr) (c0 : Nat) (l0 : List Int) (a1 : Int) (r : Bool) (w : World) (hr0 : Kd.C (Kd.int .i64) w A0 l0.length l0) (hc0 : l0.length ≤ c0) (h : cartoucheref11_has.f k l0 a1 = some r) :
 Calls Tryz.prog 122 #[.slice A0 l0.length c0, .int .i64 a1] w fun e w' => e = .returned (.bool r) ∧ Drawn0 w w' := by
 have HR0 := Aside0.mk hr0
 have HC0 := Aside0.mk hc0
 clear hr0 hc0
 have H : (cartoucheref11_has.l0 k l0 a1 0) = some r := h
 clear h
 have H' := Aside0.mk H
 clear H
 go_enter Tryz.func122, Tryz.ntmps122
 go_wp2
 go_loopg [5] k (fun kq v5 w' => ∃ (x5_1 : Int), v5 = .int .i64 x5_1 ∧ Aside0 (cartoucheref11_has.l0 kq l0 a1 x5_1 = some r) ∧ Aside0 (kq ≤ k) ∧ Drawn0 w w')
 case atStart => exact ⟨(0), (by first | rfl | (simp; done) | (simp [*]; done)), H', ⟨Nat.le_refl _⟩, by repeat (first | exact Drawn0.refl _ | apply Drawn0.step)⟩
 case round =>
  clear H'
  try clear c1
  try clear p2
  obtain ⟨x5_1, rfl, HA, HK1, ⟨m1, rfl⟩⟩ := hrel
  cases gk with
  | zero => exact absurd HA.out (by simp [cartoucheref11_has.l0])
  | succ k1 =>
     have H := HA.out
     clear HA
     simp only [cartoucheref11_has.l0] at H
     by_cases c3 : x5_1 < (l0.length : Int)
     · rw [if_pos c3] at H
       have c3b0 : decide (x5_1 < (l0.length : Int)) = true := decide_eq_true c3
       clear c3
       by_cases c4 : 0 ≤ x5_1
       · rw [if_pos c4] at H
         have c4b0 : decide (0 ≤ x5_1) = true := decide_eq_true c4
         clear c4
         by_cases c5 : (rd l0 x5_1) = a1
         · rw [if_pos c5] at H
           have c5b0 : ((rd l0 x5_1) == a1) = true := beq_iff_eq.mpr c5
           have c5b1 : ((rd l0 x5_1) != a1) = false := bne_eq_false_iff_eq.mpr c5
           clear c5
           obtain rfl := Option.some.inj H
           have p390 : 0 ≤ (x5_1 : Int) := of_decide_eq_true (by first | (with_reducible assumption) | assumption)
           have q390 : x5_1 < (l0.length : Int) := of_decide_eq_true (by first | (with_reducible assumption) | assumption)
           obtain ⟨ad390, e390, hx390_0⟩ := Kd.at_int HR0.out x5_1 p390 q390
           cases e390
           replace p390 := eq_true p390
           replace q390 := eq_true q390
           go_wp2
           go_ret
           exact ⟨by first | rfl | (simp; done) | (simp [*]; done), by repeat (first | exact Drawn0.refl _ | apply Drawn0.step)⟩
         · rw [if_neg c5] at H
           have c5b0 : ((rd l0 x5_1) == a1) = false := beq_eq_false_iff_ne.mpr c5
           have c5b1 : ((rd l0 x5_1) != a1) = true := bne_iff_ne.mpr c5
           have H' := Aside0.mk H
           clear H
           have p390 : 0 ≤ (x5_1 : Int) := of_decide_eq_true (by first | (with_reducible assumption) | assumption)
           have q390 : x5_1 < (l0.length : Int) := of_decide_eq_true (by first | (with_reducible assumption) | assumption)
           obtain ⟨ad390, e390, hx390_0⟩ := Kd.at_int HR0.out x5_1 p390 q390
           cases e390
           replace p390 := eq_true p390
           replace q390 := eq_true q390
           go_wp2
           go_roundg k1
           case measure => have := HK1.out; omega
           case rel => exact ⟨(wrap64 (x5_1 + 1)), (by first | rfl | (simp; done) | (simp [*]; done)), H', ⟨by have := HK1.out; omega⟩, by repeat (first | exact Drawn0.refl _ | apply Drawn0.step)⟩
       · rw [if_neg c4] at H
         exact absurd H (by simp)
     · rw [if_neg c3] at H
       have c3b0 : decide (x5_1 < (l0.length : Int)) = false := decide_eq_false c3
       clear c3
       obtain rfl := Option.some.inj H
       go_wp2
       go_ret
       exact ⟨by first | rfl | (simp; done) | (simp [*]; done), by repeat (first | exact Drawn0.refl _ | apply Drawn0.step)⟩
def cartoucheref10_committed.f (k : Nat) (l0 : List (S53)) (a1 : Int) : Option (Int) := (cartoucheref08_End.f k l0 a1 (l0.length : Int)).bind fun t415 => (if t415 < 0 then (some (-1)) else (if 0 ≤ t415 then (if t415 < (l0.length : Int) then (if ((rd_T53 l0 t415).f0) = 4 then (some t415) else (some (-1))) else (none)) else (none)))
theorem cartoucheref10_committed.mono : ∀ a0 a1 k, LeO (cartoucheref10_committed.f k a0 a1) (cartoucheref10_committed.f (k + 1) a0 a1) := by
 intro a0 a1 k
 unfold cartoucheref10_committed.f
 repeat' first
  | (with_reducible exact cartoucheref08_End.mono _ _ _ _)
  | (with_reducible exact LeO.refl _)
  | (with_reducible exact LeO.none _)
  | (with_reducible refine LeO.ite ?_ ?_)
  | (with_reducible refine LeO.bind ?_ (fun _ => ?_))
  | exact cartoucheref08_End.mono _ _ _ _
  | exact LeO.none _
  | refine LeO.ite ?_ ?_
  | refine LeO.bind ?_ (fun _ => ?_)
theorem cartoucheref10_committed.calls (k : Nat) (A0 : Option Addr) (c0 : Nat) (l0 : List (S53)) (a1 : Int) (r : Int) (w : World) (hr0 : Kd.C k53 w A0 l0.length l0) (hc0 : l0.length ≤ c0) (h : cartoucheref10_committed.f k l0 a1 = some r) :
 Calls Tryz.prog 60 #[.slice A0 l0.length c0, .int .i64 a1] w fun e w' => e = .returned (.int .i64 r) ∧ Drawn0 w w' := by
 have HR0 := Aside0.mk hr0
 have HC0 := Aside0.mk hc0
 clear hr0 hc0
 have H : ((cartoucheref08_End.f k l0 a1 (l0.length : Int)).bind fun t415 => (if t415 < 0 then (some (-1)) else (if 0 ≤ t415 then (if t415 < (l0.length : Int) then (if ((rd_T53 l0 t415).f0) = 4 then (some t415) else (some (-1))) else (none)) else (none)))) = some r := h
 clear h
 replace H := Option.bind_eq_some_iff.mp H
 obtain ⟨t415, A30, H⟩ := H
 try dsimp only [-dreduceIte] at H
 have A3 := Aside0.mk A30
 clear A30
 by_cases c4 : t415 < 0
 · rw [if_pos c4] at H
   have c4b0 : decide (t415 < 0) = true := decide_eq_true c4
   clear c4
   obtain rfl := Option.some.inj H
   go_enter Tryz.func60, Tryz.ntmps60
   go_wp2_with (first | ((with_reducible refine look_callee (f := 47) rfl ?_); refine goesL_ (some 10) rfl rfl Tryz.func47 (by kernel_rfl) rfl #[.slice A0 l0.length c0, .int .i64 a1, .int .i64 (l0.length : Int)] rfl (by (try simp only [List.map_toArray, List.map_cons, List.map_nil]); first | done | rfl | (simp only [List.length_drop, List.length_take]; rfl)) ?_; (with_reducible refine (cartoucheref08_End.calls k _ _ l0 a1 (l0.length : Int) t415 _ ?side1 ?side2 A3.out).mono ?_); (case side1 => repeat (first | exact HR0.out | (with_reducible refine Kd.C_alloc ?_ _) | (with_reducible refine Kd.C_drewN ?_ _) | (with_reducible refine Kd.C_drew ?_))); (case side2 => exact HC0.out); rintro e w' ⟨rfl, ⟨nd, rfl⟩⟩; refine ⟨_, rfl, ?_⟩))
   go_ret
   exact ⟨by first | rfl | (simp; done) | (simp [*]; done), by repeat (first | exact Drawn0.refl _ | apply Drawn0.step)⟩
 · rw [if_neg c4] at H
   have c4b0 : decide (t415 < 0) = false := decide_eq_false c4
   clear c4
   by_cases c5 : 0 ≤ t415
   · rw [if_pos c5] at H
     have c5b0 : decide (0 ≤ t415) = true := decide_eq_true c5
     clear c5
     by_cases c6 : t415 < (l0.length : Int)
     · rw [if_pos c6] at H
       have c6b0 : decide (t415 < (l0.length : Int)) = true := decide_eq_true c6
       clear c6
       by_cases c7 : ((rd_T53 l0 t415).f0) = 4
       · rw [if_pos c7] at H
         have c7b0 : (((rd_T53 l0 t415).f0) == 4) = true := beq_iff_eq.mpr c7
         have c7b1 : (((rd_T53 l0 t415).f0) != 4) = false := bne_eq_false_iff_eq.mpr c7
         clear c7
         obtain rfl := Option.some.inj H
         go_enter Tryz.func60, Tryz.ntmps60
         go_wp2_with (first | ((with_reducible refine look_callee (f := 47) rfl ?_); refine goesL_ (some 10) rfl rfl Tryz.func47 (by kernel_rfl) rfl #[.slice A0 l0.length c0, .int .i64 a1, .int .i64 (l0.length : Int)] rfl (by (try simp only [List.map_toArray, List.map_cons, List.map_nil]); first | done | rfl | (simp only [List.length_drop, List.length_take]; rfl)) ?_; (with_reducible refine (cartoucheref08_End.calls k _ _ l0 a1 (l0.length : Int) t415 _ ?side1 ?side2 A3.out).mono ?_); (case side1 => repeat (first | exact HR0.out | (with_reducible refine Kd.C_alloc ?_ _) | (with_reducible refine Kd.C_drewN ?_ _) | (with_reducible refine Kd.C_drew ?_))); (case side2 => exact HC0.out); rintro e w' ⟨rfl, ⟨nd, rfl⟩⟩; refine ⟨_, rfl, ?_⟩; have p416 : 0 ≤ (t415 : Int) := of_decide_eq_true (by first | (with_reducible assumption) | assumption); have q416 : t415 < (l0.length : Int) := of_decide_eq_true (by first | (with_reducible assumption) | assumption); obtain ⟨ad416, e416, hx416_0, hx416_1, hx416_2, hx416_3⟩ := at_T53 HR0.out t415 p416 q416; cases e416; replace p416 := eq_true p416; replace q416 := eq_true q416))
         go_ret
         exact ⟨by first | rfl | (simp; done) | (simp [*]; done), by repeat (first | exact Drawn0.refl _ | apply Drawn0.step)⟩
       · rw [if_neg c7] at H
         have c7b0 : (((rd_T53 l0 t415).f0) == 4) = false := beq_eq_false_iff_ne.mpr c7
         have c7b1 : (((rd_T53 l0 t415).f0) != 4) = true := bne_iff_ne.mpr c7
         obtain rfl := Option.some.inj H
         go_enter Tryz.func60, Tryz.ntmps60
         go_wp2_with (first | ((with_reducible refine look_callee (f := 47) rfl ?_); refine goesL_ (some 10) rfl rfl Tryz.func47 (by kernel_rfl) rfl #[.slice A0 l0.length c0, .int .i64 a1, .int .i64 (l0.length : Int)] rfl (by (try simp only [List.map_toArray, List.map_cons, List.map_nil]); first | done | rfl | (simp only [List.length_drop, List.length_take]; rfl)) ?_; (with_reducible refine (cartoucheref08_End.calls k _ _ l0 a1 (l0.length : Int) t415 _ ?side1 ?side2 A3.out).mono ?_); (case side1 => repeat (first | exact HR0.out | (with_reducible refine Kd.C_alloc ?_ _) | (with_reducible refine Kd.C_drewN ?_ _) | (with_reducible refine Kd.C_drew ?_))); (case side2 => exact HC0.out); rintro e w' ⟨rfl, ⟨nd, rfl⟩⟩; refine ⟨_, rfl, ?_⟩; have p416 : 0 ≤ (t415 : Int) := of_decide_eq_true (by first | (with_reducible assumption) | assumption); have q416 : t415 < (l0.length : Int) := of_decide_eq_true (by first | (with_reducible assumption) | assumption); obtain ⟨ad416, e416, hx416_0, hx416_1, hx416_2, hx416_3⟩ := at_T53 HR0.out t415 p416 q416; cases e416; replace p416 := eq_true p416; replace q416 := eq_true q416))
         go_ret
         exact ⟨by first | rfl | (simp; done) | (simp [*]; done), by repeat (first | exact Drawn0.refl _ | apply Drawn0.step)⟩
     · rw [if_neg c6] at H
       exact absurd H (by simp)
   · rw [if_neg c5] at H
     exact absurd H (by simp)
mutual
def cartoucheref10_Nodes.l0 : Nat → List (S53) → List Int → Int → Option (List Int)
 | 0, _, _, _ => none
 | k + 1, x0, x3, x4 => if x4 < 300 then (cartoucheref10_Nodes.l1 k x0 x3 x4 false 0) else (some x3)
def cartoucheref10_Nodes.l1 : Nat → List (S53) → List Int → Int → Bool → Int → Option (List Int)
 | 0, _, _, _, _, _ => none
 | k + 1, x0, x3, x4, x5, x6 => if x6 < (x0.length : Int) then (if x5 = true then (cartoucheref10_Nodes.l1 k x0 x3 x4 true (wrap64 (x6 + 1))) else (if 0 ≤ x6 then (cartoucheref10_Nodes.l1 k x0 x3 x4 (((rd_T53 x0 x6).f1) == x4) (wrap64 (x6 + 1))) else (none))) else (if x5 = true then ((cartoucheref10_committed.f k x0 x4).bind fun t418 => (if t418 ≥ 0 then (if x3.length < 17592186044416 then (cartoucheref10_Nodes.l0 k x0 (x3 ++ [x4]) (wrap64 (x4 + 1))) else (none)) else (cartoucheref10_Nodes.l0 k x0 x3 (wrap64 (x4 + 1))))) else (cartoucheref10_Nodes.l0 k x0 x3 (wrap64 (x4 + 1))))
end
def cartoucheref10_Nodes.f (k : Nat) (l0 : List (S53)) : Option (List Int) := cartoucheref10_Nodes.l0 k l0 ([] : List Int) (-1)
theorem cartoucheref10_Nodes.mono_l : ∀ k, (∀ y0 y1 y2, LeO (cartoucheref10_Nodes.l0 k y0 y1 y2) (cartoucheref10_Nodes.l0 (k + 1) y0 y1 y2)) ∧ (∀ y0 y1 y2 y3 y4, LeO (cartoucheref10_Nodes.l1 k y0 y1 y2 y3 y4) (cartoucheref10_Nodes.l1 (k + 1) y0 y1 y2 y3 y4))
 | 0 => ⟨fun _ _ _ r h => by simp [cartoucheref10_Nodes.l0] at h, fun _ _ _ _ _ r h => by simp [cartoucheref10_Nodes.l1] at h⟩
 | k + 1 => by
    obtain ⟨ih0, ih1⟩ := cartoucheref10_Nodes.mono_l k
    refine ⟨?_, ?_⟩
    · intro y0 y1 y2
      unfold cartoucheref10_Nodes.l0
      repeat' first
      | (with_reducible exact ih0 _ _ _)
      | (with_reducible exact ih1 _ _ _ _ _)
      | (with_reducible exact cartoucheref10_committed.mono _ _ _)
      | (with_reducible exact LeO.refl _)
      | (with_reducible exact LeO.none _)
      | (with_reducible refine LeO.ite ?_ ?_)
      | (with_reducible refine LeO.bind ?_ (fun _ => ?_))
      | exact ih0 _ _ _
      | exact ih1 _ _ _ _ _
      | exact cartoucheref10_committed.mono _ _ _
      | exact LeO.none _
      | refine LeO.ite ?_ ?_
      | refine LeO.bind ?_ (fun _ => ?_)
    · intro y0 y1 y2 y3 y4
      unfold cartoucheref10_Nodes.l1
      repeat' first
      | (with_reducible exact ih0 _ _ _)
      | (with_reducible exact ih1 _ _ _ _ _)
      | (with_reducible exact cartoucheref10_committed.mono _ _ _)
      | (with_reducible exact LeO.refl _)
      | (with_reducible exact LeO.none _)
      | (with_reducible refine LeO.ite ?_ ?_)
      | (with_reducible refine LeO.bind ?_ (fun _ => ?_))
      | exact ih0 _ _ _
      | exact ih1 _ _ _ _ _
      | exact cartoucheref10_committed.mono _ _ _
      | exact LeO.none _
      | refine LeO.ite ?_ ?_
      | refine LeO.bind ?_ (fun _ => ?_)
theorem cartoucheref10_Nodes.mono : ∀ a0 k, LeO (cartoucheref10_Nodes.f k a0) (cartoucheref10_Nodes.f (k + 1) a0) := by
 intro a0 k
 obtain ⟨ih0, ih1⟩ := cartoucheref10_Nodes.mono_l k
 unfold cartoucheref10_Nodes.f
 repeat' first
  | (with_reducible exact ih0 _ _ _)
  | (with_reducible exact ih1 _ _ _ _ _)
  | (with_reducible exact cartoucheref10_committed.mono _ _ _)
  | (with_reducible exact LeO.refl _)
  | (with_reducible exact LeO.none _)
  | (with_reducible refine LeO.ite ?_ ?_)
  | (with_reducible refine LeO.bind ?_ (fun _ => ?_))
  | exact ih0 _ _ _
  | exact ih1 _ _ _ _ _
  | exact cartoucheref10_committed.mono _ _ _
  | exact LeO.none _
  | refine LeO.ite ?_ ?_
  | refine LeO.bind ?_ (fun _ => ?_)
theorem cartoucheref10_Nodes.calls (k : Nat) (A0 : Option Addr) (c0 : Nat) (l0 : List (S53)) (r : List Int) (w : World) (hr0 : Kd.C k53 w A0 l0.length l0) (hc0 : l0.length ≤ c0) (h : cartoucheref10_Nodes.f k l0 = some r) :
 Calls Tryz.prog 94 #[.slice A0 l0.length c0] w fun e w' => ∃ v0_ : Value, e = .returned (v0_) ∧ Kd.R (Kd.int .i64) 3 w' w.heap.size (fun _ => True) v0_ r ∧ Below w.heap.size w w' := by
 have HR0 := Aside0.mk hr0
 have HC0 := Aside0.mk hc0
 clear hr0 hc0
 have HB := Aside0.mk (Below.refl w.heap.size w)
 have H : (cartoucheref10_Nodes.l0 k l0 ([] : List Int) (-1)) = some r := h
 clear h
 have H' := Aside0.mk H
 clear H
 go_enter Tryz.func94, Tryz.ntmps94
 go_wp2
 go_loopg [3, 4] k (fun kq v3 v4 w' => ∃ (x3_1 : List Int) (x4_1 : Int), v4 = .int .i64 x4_1 ∧ Aside0 (cartoucheref10_Nodes.l0 kq l0 x3_1 x4_1 = some r) ∧ Aside0 (kq ≤ k) ∧ Aside0 (Kd.R (Kd.int .i64) 3 w' w.heap.size (fun _ => True) v3 x3_1) ∧ Aside0 (Below w.heap.size w w'))
 case atStart => exact ⟨(([] : List Int)), ((-1)), (by first | rfl | (simp; done) | (simp [*]; done)), H', ⟨Nat.le_refl _⟩, ⟨by first | exact Kd.R_nil _ _ _ _ _ | exact Kd.N_nil _ _ _ _ _ | exact Kd.V_nil _ _ _ _ _ | exact Kd.Q_nil _ _ _ _ _ | exact Kd.S_nil _ _ _ _ _⟩, ⟨by repeat (first | (with_reducible first | exact HB.out | apply below_alloc | apply pw_below_drewN | apply below_drew1) | exact HB.out)⟩⟩
 case round =>
  clear H'
  obtain ⟨x3_1, x4_1, rfl, HA, HK1, HO_3, HB⟩ := hrel
  cases gk with
  | zero => exact absurd HA.out (by simp [cartoucheref10_Nodes.l0])
  | succ k1 =>
     have H := HA.out
     clear HA
     simp only [cartoucheref10_Nodes.l0] at H
     by_cases c2 : x4_1 < 300
     · rw [if_pos c2] at H
       have c2b0 : decide (x4_1 < 300) = true := decide_eq_true c2
       clear c2
       have H' := Aside0.mk H
       clear H
       go_wp2
       go_loopg [5, 6] k1 (fun kq v5 v6 w' => ∃ (x5_2 : Bool) (x6_2 : Int), v5 = .bool x5_2 ∧ v6 = .int .i64 x6_2 ∧ Aside0 (cartoucheref10_Nodes.l1 kq l0 x3_1 x4_1 x5_2 x6_2 = some r) ∧ Aside0 (kq ≤ k1) ∧ Aside0 (Kd.R (Kd.int .i64) 3 w' w.heap.size (fun _ => True) u3 x3_1) ∧ Aside0 (Below w.heap.size w w'))
       case atStart => exact ⟨(false), (0), (by first | rfl | (simp; done) | (simp [*]; done)), (by first | rfl | (simp; done) | (simp [*]; done)), H', ⟨Nat.le_refl _⟩, ⟨by (with_reducible repeat (first | apply Kd.R_alloc | apply Kd.R_drewN | apply Kd.R_drew)); exact HO_3.out⟩, ⟨by repeat (first | (with_reducible first | exact HB.out | apply below_alloc | apply pw_below_drewN | apply below_drew1) | exact HB.out)⟩⟩
       case round =>
        clear H'
        try clear c2
        try clear c2b0
        try clear p2
        obtain ⟨x5_2, x6_2, rfl, rfl, HA, HK2, HO_3, HB⟩ := hrel
        cases gk with
        | zero => exact absurd HA.out (by simp [cartoucheref10_Nodes.l1])
        | succ k2 =>
           have H := HA.out
           clear HA
           simp only [cartoucheref10_Nodes.l1] at H
           by_cases c3 : x6_2 < (l0.length : Int)
           · rw [if_pos c3] at H
             have c3b0 : decide (x6_2 < (l0.length : Int)) = true := decide_eq_true c3
             clear c3
             by_cases c4 : x5_2 = true
             · subst c4
               rw [if_pos rfl] at H
               have H' := Aside0.mk H
               clear H
               go_wp2
               go_roundg k2
               case measure => have := HK1.out; have := HK2.out; omega
               case rel => exact ⟨(true), (wrap64 (x6_2 + 1)), (by first | rfl | (simp; done) | (simp [*]; done)), (by first | rfl | (simp; done) | (simp [*]; done)), H', ⟨by have := HK1.out; have := HK2.out; omega⟩, ⟨by (with_reducible repeat (first | apply Kd.R_alloc | apply Kd.R_drewN | apply Kd.R_drew)); exact HO_3.out⟩, ⟨by repeat (first | (with_reducible first | exact HB.out | apply below_alloc | apply pw_below_drewN | apply below_drew1) | exact HB.out)⟩⟩
             · replace c4 := Bool.eq_false_iff.mpr c4
               subst c4
               rw [if_neg (show ¬ (false = true) by decide)] at H
               by_cases c5 : 0 ≤ x6_2
               · rw [if_pos c5] at H
                 have c5b0 : decide (0 ≤ x6_2) = true := decide_eq_true c5
                 clear c5
                 have H' := Aside0.mk H
                 clear H
                 have p417 : 0 ≤ (x6_2 : Int) := of_decide_eq_true (by first | (with_reducible assumption) | assumption)
                 have q417 : x6_2 < (l0.length : Int) := of_decide_eq_true (by first | (with_reducible assumption) | assumption)
                 obtain ⟨ad417, e417, hx417_0, hx417_1, hx417_2, hx417_3⟩ := at_T53 HR0.out x6_2 p417 q417
                 cases e417
                 replace hx417_0 := (HB.out.cell (World.block_lt_of_cell? w _ hx417_0)).trans hx417_0
                 replace hx417_1 := (HB.out.cell (World.block_lt_of_cell? w _ hx417_1)).trans hx417_1
                 replace hx417_2 := (HB.out.cell (World.block_lt_of_cell? w _ hx417_2)).trans hx417_2
                 replace hx417_3 := (HB.out.cell (World.block_lt_of_cell? w _ hx417_3)).trans hx417_3
                 replace p417 := eq_true p417
                 replace q417 := eq_true q417
                 go_wp2
                 go_roundg k2
                 case measure => have := HK1.out; have := HK2.out; omega
                 case rel => exact ⟨((((rd_T53 l0 x6_2).f1) == x4_1)), (wrap64 (x6_2 + 1)), (by first | rfl | (simp; done) | (simp [*]; done)), (by first | rfl | (simp; done) | (simp [*]; done)), H', ⟨by have := HK1.out; have := HK2.out; omega⟩, ⟨by (with_reducible repeat (first | apply Kd.R_alloc | apply Kd.R_drewN | apply Kd.R_drew)); exact HO_3.out⟩, ⟨by repeat (first | (with_reducible first | exact HB.out | apply below_alloc | apply pw_below_drewN | apply below_drew1) | exact HB.out)⟩⟩
               · rw [if_neg c5] at H
                 exact absurd H (by simp)
           · rw [if_neg c3] at H
             have c3b0 : decide (x6_2 < (l0.length : Int)) = false := decide_eq_false c3
             clear c3
             by_cases c6 : x5_2 = true
             · subst c6
               rw [if_pos rfl] at H
               replace H := Option.bind_eq_some_iff.mp H
               obtain ⟨t418, A70, H⟩ := H
               try dsimp only [-dreduceIte] at H
               have A7 := Aside0.mk A70
               clear A70
               by_cases c8 : t418 ≥ 0
               · rw [if_pos c8] at H
                 have c8b0 : decide (0 ≤ t418) = true := decide_eq_true c8
                 clear c8
                 by_cases c9 : x3_1.length < 17592186044416
                 · rw [if_pos c9] at H
                   have LMc9 := Aside0.mk c9
                   clear c9
                   obtain ⟨y419, hy419⟩ : ∃ y_ : List Int, y_ = (x3_1 ++ [x4_1]) := ⟨_, rfl⟩
                   replace H : (cartoucheref10_Nodes.l0 k2 l0 y419 (wrap64 (x4_1 + 1))) = some r := by first | (rw [hy419]; with_reducible exact H) | (have H2_ := (Option.bind_some _ _).symm.trans H; rw [hy419]; with_reducible exact H2_) | (have H2_ := (Option.bind_some _ _).symm.trans H; with_reducible exact H2_) | with_reducible exact H | (rw [hy419]; exact H) | exact H
                   have Ny419 := Aside0.mk hy419
                   clear hy419
                   have H' := Aside0.mk H
                   clear H
                   go_wp2_with (first | (go_at_call 60; (with_reducible refine (cartoucheref10_committed.calls k2 _ _ l0 x4_1 t418 _ ?side1 ?side2 A7.out).mono ?_); (case side1 => repeat (first | exact (Kd.C_below HR0.out HB.out) | (with_reducible refine Kd.C_alloc ?_ _) | (with_reducible refine Kd.C_drewN ?_ _) | (with_reducible refine Kd.C_drew ?_))); (case side2 => exact HC0.out); rintro e w' ⟨rfl, ⟨nd, rfl⟩⟩) | ((with_reducible refine look_builtin (b := .append) (xs := #[.tmp 34, .tmp 36]) rfl ?_); at_builtin; refine Kd.R_append (Kd.int .i64) (w0 := w) w.heap.size rfl (.tmp 34) (.tmp 36) 22 3 (.int .i64 0) 8 rfl Tryz.underlying22 info3 rfl (by decide) (by omega) u3 x3_1 x4_1 [.int .i64 x4_1] (fun _ => True) (fun _ => False) rfl rfl ?aP (fun _ hk => hk.elim) ?aF ?aO ?aB ?aS ?aL ?_; (case aP => exact rfl); (case aB => exact (by repeat (first | (with_reducible first | exact HB.out | apply below_alloc | apply pw_below_drewN | apply below_drew1) | exact HB.out))); (case aF => exact (fun _ _ => trivial)); (case aO => exact (by (with_reducible repeat (first | apply Kd.R_alloc | apply Kd.R_drewN | apply Kd.R_drew)); exact HO_3.out)); (case aS => exact (below_size (by repeat (first | (with_reducible first | exact HB.out | apply below_alloc | apply pw_below_drewN | apply below_drew1) | exact HB.out)))); (case aL => have := LMc9.out; omega); intro v420 w10 ho hb hg hat; rw [← Ny419.out] at ho; have n0_ := Aside0.mk (hb); have n1_ := Aside0.mk (ho); clear HB; clear HO_3; have HB := n0_; have HO421 := n1_; clear n0_ n1_; clear ho hb hg hat))
                   go_roundg k2
                   case measure => have := HK1.out; have := HK2.out; omega
                   case rel => exact ⟨(y419), (wrap64 (x4_1 + 1)), (by first | rfl | (simp; done) | (simp [*]; done)), H', ⟨by have := HK1.out; have := HK2.out; omega⟩, ⟨by (with_reducible repeat (first | apply Kd.R_alloc | apply Kd.R_drewN | apply Kd.R_drew)); exact HO421.out⟩, ⟨by repeat (first | (with_reducible first | exact HB.out | apply below_alloc | apply pw_below_drewN | apply below_drew1) | exact HB.out)⟩⟩
                 · rw [if_neg c9] at H
                   exact absurd H (by simp)
               · rw [if_neg c8] at H
                 have c8b0 : decide (0 ≤ t418) = false := decide_eq_false c8
                 clear c8
                 have H' := Aside0.mk H
                 clear H
                 go_wp2_with (first | (go_at_call 60; (with_reducible refine (cartoucheref10_committed.calls k2 _ _ l0 x4_1 t418 _ ?side1 ?side2 A7.out).mono ?_); (case side1 => repeat (first | exact (Kd.C_below HR0.out HB.out) | (with_reducible refine Kd.C_alloc ?_ _) | (with_reducible refine Kd.C_drewN ?_ _) | (with_reducible refine Kd.C_drew ?_))); (case side2 => exact HC0.out); rintro e w' ⟨rfl, ⟨nd, rfl⟩⟩))
                 go_roundg k2
                 case measure => have := HK1.out; have := HK2.out; omega
                 case rel => exact ⟨(x3_1), (wrap64 (x4_1 + 1)), (by first | rfl | (simp; done) | (simp [*]; done)), H', ⟨by have := HK1.out; have := HK2.out; omega⟩, ⟨by (with_reducible repeat (first | apply Kd.R_alloc | apply Kd.R_drewN | apply Kd.R_drew)); exact HO_3.out⟩, ⟨by repeat (first | (with_reducible first | exact HB.out | apply below_alloc | apply pw_below_drewN | apply below_drew1) | exact HB.out)⟩⟩
             · replace c6 := Bool.eq_false_iff.mpr c6
               subst c6
               rw [if_neg (show ¬ (false = true) by decide)] at H
               have H' := Aside0.mk H
               clear H
               go_wp2
               go_roundg k2
               case measure => have := HK1.out; have := HK2.out; omega
               case rel => exact ⟨(x3_1), (wrap64 (x4_1 + 1)), (by first | rfl | (simp; done) | (simp [*]; done)), H', ⟨by have := HK1.out; have := HK2.out; omega⟩, ⟨by (with_reducible repeat (first | apply Kd.R_alloc | apply Kd.R_drewN | apply Kd.R_drew)); exact HO_3.out⟩, ⟨by repeat (first | (with_reducible first | exact HB.out | apply below_alloc | apply pw_below_drewN | apply below_drew1) | exact HB.out)⟩⟩
     · rw [if_neg c2] at H
       have c2b0 : decide (x4_1 < 300) = false := decide_eq_false c2
       clear c2
       obtain rfl := Option.some.inj H
       go_wp2
       go_ret
       exact ⟨_, by first | rfl | (simp [errW_none, errW_some] <;> rfl) | (simp [*, errW_none, errW_some] <;> rfl), by (with_reducible repeat (first | apply Kd.R_alloc | apply Kd.R_drewN | apply Kd.R_drew)); exact HO_3.out, by repeat (first | (with_reducible first | exact HB.out | apply below_alloc | apply pw_below_drewN | apply below_drew1) | exact HB.out)⟩
def cartoucheref08_Find.f (k : Nat) (l0 : List (S53)) (a1 : Int) : Option (Int × Int × Int × Bool × Bool) := (cartoucheref08_first.f k l0 a1 (l0.length : Int)).bind fun t541 => (if t541 < 0 then (some (0, 0, 0, false, false)) else ((cartoucheref08_End.f k l0 a1 (l0.length : Int)).bind fun t542 => (if t542 < 0 then (some (a1, t541, (l0.length : Int), false, true)) else (if 0 ≤ t542 then (if t542 < (l0.length : Int) then (some (a1, t541, t542, (((rd_T53 l0 t542).f0) == 4), true)) else (none)) else (none)))))
theorem cartoucheref08_Find.mono : ∀ a0 a1 k, LeO (cartoucheref08_Find.f k a0 a1) (cartoucheref08_Find.f (k + 1) a0 a1) := by
 intro a0 a1 k
 unfold cartoucheref08_Find.f
 repeat' first
  | (with_reducible exact cartoucheref08_End.mono _ _ _ _)
  | (with_reducible exact cartoucheref08_first.mono _ _ _ _)
  | (with_reducible exact LeO.refl _)
  | (with_reducible exact LeO.none _)
  | (with_reducible refine LeO.ite ?_ ?_)
  | (with_reducible refine LeO.bind ?_ (fun _ => ?_))
  | exact cartoucheref08_End.mono _ _ _ _
  | exact cartoucheref08_first.mono _ _ _ _
  | exact LeO.none _
  | refine LeO.ite ?_ ?_
  | refine LeO.bind ?_ (fun _ => ?_)
theorem cartoucheref08_Find.calls (k : Nat) (A0 : Option Addr) (c0 : Nat) (l0 : List (S53)) (a1 : Int) (r1 : Int) (r2 : Int) (r3 : Int) (r4 : Bool) (r5 : Bool) (w : World) (hr0 : Kd.C k53 w A0 l0.length l0) (hc0 : l0.length ≤ c0) (h : cartoucheref08_Find.f k l0 a1 = some (r1, r2, r3, r4, r5)) :
 Calls Tryz.prog 128 #[.slice A0 l0.length c0, .int .i64 a1] w fun e w' => e = .returned (.tuple #[.agg #[.int .i64 r1, .int .i64 r2, .int .i64 r3, .bool r4], .bool r5]) ∧ Below w.heap.size w w' := by
 have hu171 := Tryz.underlying171
 have HR0 := Aside0.mk hr0
 have HC0 := Aside0.mk hc0
 clear hr0 hc0
 have HB := Aside0.mk (Below.refl w.heap.size w)
 have H : ((cartoucheref08_first.f k l0 a1 (l0.length : Int)).bind fun t541 => (if t541 < 0 then (some (0, 0, 0, false, false)) else ((cartoucheref08_End.f k l0 a1 (l0.length : Int)).bind fun t542 => (if t542 < 0 then (some (a1, t541, (l0.length : Int), false, true)) else (if 0 ≤ t542 then (if t542 < (l0.length : Int) then (some (a1, t541, t542, (((rd_T53 l0 t542).f0) == 4), true)) else (none)) else (none)))))) = some (r1, r2, r3, r4, r5) := h
 clear h
 replace H := Option.bind_eq_some_iff.mp H
 obtain ⟨t541, A30, H⟩ := H
 try dsimp only [-dreduceIte] at H
 have A3 := Aside0.mk A30
 clear A30
 by_cases c4 : t541 < 0
 · rw [if_pos c4] at H
   have c4b0 : decide (t541 < 0) = true := decide_eq_true c4
   clear c4
   simp only [Option.some.injEq, Prod.mk.injEq] at H
   obtain ⟨rfl, rfl, rfl, rfl, rfl⟩ := H
   go_enter Tryz.func128, Tryz.ntmps128
   go_wp2_with (first | ((with_reducible refine gate_dst (N := 4) rfl ?_); refine box_event ?hg (N := 4) ?hd (cs := #[.int .i64 0, .int .i64 0, .int .i64 0, .bool false]) (t := 171) ?hr ?_; (case hd => rfl); (case hg => rfl); (case hr => first | (go_simp; done) | (go_simp; rfl)); intro gb540 hg w5 hbox hb; have n0_ := Aside0.mk (below_step (by repeat (first | (with_reducible first | exact HB.out | apply below_alloc | apply pw_below_drewN | apply below_drew1) | exact HB.out)) hb); have n1_ := Aside0.mk (hbox); have n2_ := Aside0.mk ((by rw [hg]; exact (below_size (by repeat (first | (with_reducible first | exact HB.out | apply below_alloc | apply pw_below_drewN | apply below_drew1) | exact HB.out))) : w.heap.size ≤ gb540)); have n3_ := Aside0.mk ((by rw [hg]; exact (below_size (by repeat (first | (with_reducible first | exact HB.out | apply below_alloc | apply pw_below_drewN | apply below_drew1) | exact HB.out))) : w.heap.size ≤ gb540)); clear HB; have HB := n0_; have BK540 := n1_; have GW540 := n2_; have GE540 := n3_; clear n0_ n1_ n2_ n3_; clear hb hbox hg) | ((with_reducible refine look_callee (f := 46) rfl ?_); refine goesL_ (some 12) rfl rfl Tryz.func46 (by kernel_rfl) rfl #[.slice A0 l0.length c0, .int .i64 a1, .int .i64 (l0.length : Int)] rfl (by (try simp only [List.map_toArray, List.map_cons, List.map_nil]); first | done | rfl | (simp only [List.length_drop, List.length_take]; rfl)) ?_; (with_reducible refine (cartoucheref08_first.calls k _ _ l0 a1 (l0.length : Int) t541 _ ?side1 ?side2 A3.out).mono ?_); (case side1 => repeat (first | exact (Kd.C_below HR0.out HB.out) | (with_reducible refine Kd.C_alloc ?_ _) | (with_reducible refine Kd.C_drewN ?_ _) | (with_reducible refine Kd.C_drew ?_))); (case side2 => exact HC0.out); rintro e w' ⟨rfl, ⟨nd, rfl⟩⟩; refine ⟨_, rfl, ?_⟩; (try (rw [look_drewN w5]; generalize hq_ : World.drewN w5 _ = w5; have n0_ : Aside0 (w5.heap[gb540]? = some (.cells #[.int .i64 0, .int .i64 0, .int .i64 0, .bool false] 171 (0, 0))) := ⟨by rw [← hq_]; exact (by (with_reducible repeat (first | refine blk_drewN ?_ _ | refine blk_drew ?_ | refine blk_alloc ?_ _)); exact BK540.out)⟩; have n1_ : Aside0 (Below w.heap.size w w5) := ⟨by rw [← hq_]; exact (by repeat (first | (with_reducible first | exact HB.out | apply below_alloc | apply pw_below_drewN | apply below_drew1 | refine below_set ?_ GE540.out) | exact HB.out))⟩; clear BK540 HB hq_; have BK540 := n0_; have HB := n1_; clear n0_ n1_)); have hcz6_0 : w5.cell? ⟨gb540, 0, none⟩ = some (.int .i64 0) := (blk_cell BK540.out 0).trans rfl; have hcz6_1 : w5.cell? ⟨gb540, 1, none⟩ = some (.int .i64 0) := (blk_cell BK540.out 1).trans rfl; have hcz6_2 : w5.cell? ⟨gb540, 2, none⟩ = some (.int .i64 0) := (blk_cell BK540.out 2).trans rfl; have hcz6_3 : w5.cell? ⟨gb540, 3, none⟩ = some (.bool false) := (blk_cell BK540.out 3).trans rfl; have hfz6_0 := blk_frozen BK540.out 0; have hfz6_1 := blk_frozen BK540.out 1; have hfz6_2 := blk_frozen BK540.out 2; have hfz6_3 := blk_frozen BK540.out 3))
   refine bodyPost_ret (results_ct rfl _ _ gb540 171 #[.int .i64 0, .int .i64 0, .int .i64 0, .bool false] (0, 0) _ rfl (by (with_reducible repeat (first | refine blk_drewN ?_ _ | refine blk_drew ?_ | refine blk_alloc ?_ _)); refine blk_put (cs := #[.int .i64 0, .int .i64 0, .int .i64 0, .bool false]) ?_ 3 _ rfl; (with_reducible repeat (first | refine blk_drewN ?_ _ | refine blk_drew ?_ | refine blk_alloc ?_ _)); refine blk_put (cs := #[.int .i64 0, .int .i64 0, .int .i64 0, .bool false]) ?_ 2 _ rfl; (with_reducible repeat (first | refine blk_drewN ?_ _ | refine blk_drew ?_ | refine blk_alloc ?_ _)); refine blk_put (cs := #[.int .i64 0, .int .i64 0, .int .i64 0, .bool false]) ?_ 1 _ rfl; (with_reducible repeat (first | refine blk_drewN ?_ _ | refine blk_drew ?_ | refine blk_alloc ?_ _)); refine blk_put (cs := #[.int .i64 0, .int .i64 0, .int .i64 0, .bool false]) ?_ 0 _ rfl; (with_reducible repeat (first | refine blk_drewN ?_ _ | refine blk_drew ?_ | refine blk_alloc ?_ _)); exact BK540.out) Tryz.underlying171 rfl (by kernel_rfl)) rfl ?_
   exact ⟨by first | rfl | (simp [errW_none, errW_some] <;> rfl) | (simp [*, errW_none, errW_some] <;> rfl) | (simp [bne]; done) | (simp [*, bne]; done), by repeat (first | (with_reducible first | exact HB.out | apply below_alloc | apply pw_below_drewN | apply below_drew1 | refine below_set ?_ GE540.out) | exact HB.out)⟩
 · rw [if_neg c4] at H
   have c4b0 : decide (t541 < 0) = false := decide_eq_false c4
   clear c4
   replace H := Option.bind_eq_some_iff.mp H
   obtain ⟨t542, A70, H⟩ := H
   try dsimp only [-dreduceIte] at H
   have A7 := Aside0.mk A70
   clear A70
   by_cases c8 : t542 < 0
   · rw [if_pos c8] at H
     have c8b0 : decide (t542 < 0) = true := decide_eq_true c8
     clear c8
     simp only [Option.some.injEq, Prod.mk.injEq] at H
     obtain ⟨rfl, rfl, rfl, rfl, rfl⟩ := H
     go_enter Tryz.func128, Tryz.ntmps128
     go_wp2_with (first | ((with_reducible refine gate_dst (N := 4) rfl ?_); refine box_event ?hg (N := 4) ?hd (cs := #[.int .i64 0, .int .i64 0, .int .i64 0, .bool false]) (t := 171) ?hr ?_; (case hd => rfl); (case hg => rfl); (case hr => first | (go_simp; done) | (go_simp; rfl)); intro gb540 hg w9 hbox hb; have n0_ := Aside0.mk (below_step (by repeat (first | (with_reducible first | exact HB.out | apply below_alloc | apply pw_below_drewN | apply below_drew1) | exact HB.out)) hb); have n1_ := Aside0.mk (hbox); have n2_ := Aside0.mk ((by rw [hg]; exact (below_size (by repeat (first | (with_reducible first | exact HB.out | apply below_alloc | apply pw_below_drewN | apply below_drew1) | exact HB.out))) : w.heap.size ≤ gb540)); have n3_ := Aside0.mk ((by rw [hg]; exact (below_size (by repeat (first | (with_reducible first | exact HB.out | apply below_alloc | apply pw_below_drewN | apply below_drew1) | exact HB.out))) : w.heap.size ≤ gb540)); clear HB; have HB := n0_; have BK540 := n1_; have GW540 := n2_; have GE540 := n3_; clear n0_ n1_ n2_ n3_; clear hb hbox hg) | ((with_reducible refine look_callee (f := 46) rfl ?_); refine goesL_ (some 12) rfl rfl Tryz.func46 (by kernel_rfl) rfl #[.slice A0 l0.length c0, .int .i64 a1, .int .i64 (l0.length : Int)] rfl (by (try simp only [List.map_toArray, List.map_cons, List.map_nil]); first | done | rfl | (simp only [List.length_drop, List.length_take]; rfl)) ?_; (with_reducible refine (cartoucheref08_first.calls k _ _ l0 a1 (l0.length : Int) t541 _ ?side1 ?side2 A3.out).mono ?_); (case side1 => repeat (first | exact (Kd.C_below HR0.out HB.out) | (with_reducible refine Kd.C_alloc ?_ _) | (with_reducible refine Kd.C_drewN ?_ _) | (with_reducible refine Kd.C_drew ?_))); (case side2 => exact HC0.out); rintro e w' ⟨rfl, ⟨nd, rfl⟩⟩; refine ⟨_, rfl, ?_⟩; (try (rw [look_drewN w9]; generalize hq_ : World.drewN w9 _ = w9; have n0_ : Aside0 (w9.heap[gb540]? = some (.cells #[.int .i64 0, .int .i64 0, .int .i64 0, .bool false] 171 (0, 0))) := ⟨by rw [← hq_]; exact (by (with_reducible repeat (first | refine blk_drewN ?_ _ | refine blk_drew ?_ | refine blk_alloc ?_ _)); exact BK540.out)⟩; have n1_ : Aside0 (Below w.heap.size w w9) := ⟨by rw [← hq_]; exact (by repeat (first | (with_reducible first | exact HB.out | apply below_alloc | apply pw_below_drewN | apply below_drew1 | refine below_set ?_ GE540.out) | exact HB.out))⟩; clear BK540 HB hq_; have BK540 := n0_; have HB := n1_; clear n0_ n1_))) | ((with_reducible refine look_callee (f := 47) rfl ?_); refine goesL_ (some 20) rfl rfl Tryz.func47 (by kernel_rfl) rfl #[.slice A0 l0.length c0, .int .i64 a1, .int .i64 (l0.length : Int)] rfl (by (try simp only [List.map_toArray, List.map_cons, List.map_nil]); first | done | rfl | (simp only [List.length_drop, List.length_take]; rfl)) ?_; (with_reducible refine (cartoucheref08_End.calls k _ _ l0 a1 (l0.length : Int) t542 _ ?side1 ?side2 A7.out).mono ?_); (case side1 => repeat (first | exact (Kd.C_below HR0.out HB.out) | (with_reducible refine Kd.C_alloc ?_ _) | (with_reducible refine Kd.C_drewN ?_ _) | (with_reducible refine Kd.C_drew ?_))); (case side2 => exact HC0.out); rintro e w' ⟨rfl, ⟨nd, rfl⟩⟩; refine ⟨_, rfl, ?_⟩; (try (rw [look_drewN w9]; generalize hq_ : World.drewN w9 _ = w9; have n0_ : Aside0 (w9.heap[gb540]? = some (.cells #[.int .i64 0, .int .i64 0, .int .i64 0, .bool false] 171 (0, 0))) := ⟨by rw [← hq_]; exact (by (with_reducible repeat (first | refine blk_drewN ?_ _ | refine blk_drew ?_ | refine blk_alloc ?_ _)); exact BK540.out)⟩; have n1_ : Aside0 (Below w.heap.size w w9) := ⟨by rw [← hq_]; exact (by repeat (first | (with_reducible first | exact HB.out | apply below_alloc | apply pw_below_drewN | apply below_drew1 | refine below_set ?_ GE540.out) | exact HB.out))⟩; clear BK540 HB hq_; have BK540 := n0_; have HB := n1_; clear n0_ n1_)); have hcz10_0 : w9.cell? ⟨gb540, 0, none⟩ = some (.int .i64 0) := (blk_cell BK540.out 0).trans rfl; have hcz10_1 : w9.cell? ⟨gb540, 1, none⟩ = some (.int .i64 0) := (blk_cell BK540.out 1).trans rfl; have hcz10_2 : w9.cell? ⟨gb540, 2, none⟩ = some (.int .i64 0) := (blk_cell BK540.out 2).trans rfl; have hcz10_3 : w9.cell? ⟨gb540, 3, none⟩ = some (.bool false) := (blk_cell BK540.out 3).trans rfl; have hfz10_0 := blk_frozen BK540.out 0; have hfz10_1 := blk_frozen BK540.out 1; have hfz10_2 := blk_frozen BK540.out 2; have hfz10_3 := blk_frozen BK540.out 3))
     refine bodyPost_ret (results_ct rfl _ _ gb540 171 #[.int .i64 a1, .int .i64 t541, .int .i64 (l0.length : Int), .bool false] (0, 0) _ rfl (by (with_reducible repeat (first | refine blk_drewN ?_ _ | refine blk_drew ?_ | refine blk_alloc ?_ _)); refine blk_put (cs := #[.int .i64 a1, .int .i64 t541, .int .i64 (l0.length : Int), .bool false]) ?_ 3 _ rfl; (with_reducible repeat (first | refine blk_drewN ?_ _ | refine blk_drew ?_ | refine blk_alloc ?_ _)); refine blk_put (cs := #[.int .i64 a1, .int .i64 t541, .int .i64 0, .bool false]) ?_ 2 _ rfl; (with_reducible repeat (first | refine blk_drewN ?_ _ | refine blk_drew ?_ | refine blk_alloc ?_ _)); refine blk_put (cs := #[.int .i64 a1, .int .i64 0, .int .i64 0, .bool false]) ?_ 1 _ rfl; (with_reducible repeat (first | refine blk_drewN ?_ _ | refine blk_drew ?_ | refine blk_alloc ?_ _)); refine blk_put (cs := #[.int .i64 0, .int .i64 0, .int .i64 0, .bool false]) ?_ 0 _ rfl; (with_reducible repeat (first | refine blk_drewN ?_ _ | refine blk_drew ?_ | refine blk_alloc ?_ _)); exact BK540.out) Tryz.underlying171 rfl (by kernel_rfl)) rfl ?_
     exact ⟨by first | rfl | (simp [errW_none, errW_some] <;> rfl) | (simp [*, errW_none, errW_some] <;> rfl) | (simp [bne]; done) | (simp [*, bne]; done), by repeat (first | (with_reducible first | exact HB.out | apply below_alloc | apply pw_below_drewN | apply below_drew1 | refine below_set ?_ GE540.out) | exact HB.out)⟩
   · rw [if_neg c8] at H
     have c8b0 : decide (t542 < 0) = false := decide_eq_false c8
     clear c8
     by_cases c11 : 0 ≤ t542
     · rw [if_pos c11] at H
       have c11b0 : decide (0 ≤ t542) = true := decide_eq_true c11
       clear c11
       by_cases c12 : t542 < (l0.length : Int)
       · rw [if_pos c12] at H
         have c12b0 : decide (t542 < (l0.length : Int)) = true := decide_eq_true c12
         clear c12
         simp only [Option.some.injEq, Prod.mk.injEq] at H
         obtain ⟨rfl, rfl, rfl, rfl, rfl⟩ := H
         go_enter Tryz.func128, Tryz.ntmps128
         go_wp2_with (first | ((with_reducible refine gate_dst (N := 4) rfl ?_); refine box_event ?hg (N := 4) ?hd (cs := #[.int .i64 0, .int .i64 0, .int .i64 0, .bool false]) (t := 171) ?hr ?_; (case hd => rfl); (case hg => rfl); (case hr => first | (go_simp; done) | (go_simp; rfl)); intro gb540 hg w13 hbox hb; have n0_ := Aside0.mk (below_step (by repeat (first | (with_reducible first | exact HB.out | apply below_alloc | apply pw_below_drewN | apply below_drew1) | exact HB.out)) hb); have n1_ := Aside0.mk (hbox); have n2_ := Aside0.mk ((by rw [hg]; exact (below_size (by repeat (first | (with_reducible first | exact HB.out | apply below_alloc | apply pw_below_drewN | apply below_drew1) | exact HB.out))) : w.heap.size ≤ gb540)); have n3_ := Aside0.mk ((by rw [hg]; exact (below_size (by repeat (first | (with_reducible first | exact HB.out | apply below_alloc | apply pw_below_drewN | apply below_drew1) | exact HB.out))) : w.heap.size ≤ gb540)); clear HB; have HB := n0_; have BK540 := n1_; have GW540 := n2_; have GE540 := n3_; clear n0_ n1_ n2_ n3_; clear hb hbox hg) | ((with_reducible refine look_callee (f := 46) rfl ?_); refine goesL_ (some 12) rfl rfl Tryz.func46 (by kernel_rfl) rfl #[.slice A0 l0.length c0, .int .i64 a1, .int .i64 (l0.length : Int)] rfl (by (try simp only [List.map_toArray, List.map_cons, List.map_nil]); first | done | rfl | (simp only [List.length_drop, List.length_take]; rfl)) ?_; (with_reducible refine (cartoucheref08_first.calls k _ _ l0 a1 (l0.length : Int) t541 _ ?side1 ?side2 A3.out).mono ?_); (case side1 => repeat (first | exact (Kd.C_below HR0.out HB.out) | (with_reducible refine Kd.C_alloc ?_ _) | (with_reducible refine Kd.C_drewN ?_ _) | (with_reducible refine Kd.C_drew ?_))); (case side2 => exact HC0.out); rintro e w' ⟨rfl, ⟨nd, rfl⟩⟩; refine ⟨_, rfl, ?_⟩; (try (rw [look_drewN w13]; generalize hq_ : World.drewN w13 _ = w13; have n0_ : Aside0 (w13.heap[gb540]? = some (.cells #[.int .i64 0, .int .i64 0, .int .i64 0, .bool false] 171 (0, 0))) := ⟨by rw [← hq_]; exact (by (with_reducible repeat (first | refine blk_drewN ?_ _ | refine blk_drew ?_ | refine blk_alloc ?_ _)); exact BK540.out)⟩; have n1_ : Aside0 (Below w.heap.size w w13) := ⟨by rw [← hq_]; exact (by repeat (first | (with_reducible first | exact HB.out | apply below_alloc | apply pw_below_drewN | apply below_drew1 | refine below_set ?_ GE540.out) | exact HB.out))⟩; clear BK540 HB hq_; have BK540 := n0_; have HB := n1_; clear n0_ n1_))) | ((with_reducible refine look_callee (f := 47) rfl ?_); refine goesL_ (some 20) rfl rfl Tryz.func47 (by kernel_rfl) rfl #[.slice A0 l0.length c0, .int .i64 a1, .int .i64 (l0.length : Int)] rfl (by (try simp only [List.map_toArray, List.map_cons, List.map_nil]); first | done | rfl | (simp only [List.length_drop, List.length_take]; rfl)) ?_; (with_reducible refine (cartoucheref08_End.calls k _ _ l0 a1 (l0.length : Int) t542 _ ?side1 ?side2 A7.out).mono ?_); (case side1 => repeat (first | exact (Kd.C_below HR0.out HB.out) | (with_reducible refine Kd.C_alloc ?_ _) | (with_reducible refine Kd.C_drewN ?_ _) | (with_reducible refine Kd.C_drew ?_))); (case side2 => exact HC0.out); rintro e w' ⟨rfl, ⟨nd, rfl⟩⟩; refine ⟨_, rfl, ?_⟩; (try (rw [look_drewN w13]; generalize hq_ : World.drewN w13 _ = w13; have n0_ : Aside0 (w13.heap[gb540]? = some (.cells #[.int .i64 0, .int .i64 0, .int .i64 0, .bool false] 171 (0, 0))) := ⟨by rw [← hq_]; exact (by (with_reducible repeat (first | refine blk_drewN ?_ _ | refine blk_drew ?_ | refine blk_alloc ?_ _)); exact BK540.out)⟩; have n1_ : Aside0 (Below w.heap.size w w13) := ⟨by rw [← hq_]; exact (by repeat (first | (with_reducible first | exact HB.out | apply below_alloc | apply pw_below_drewN | apply below_drew1 | refine below_set ?_ GE540.out) | exact HB.out))⟩; clear BK540 HB hq_; have BK540 := n0_; have HB := n1_; clear n0_ n1_)); have p543 : 0 ≤ (t542 : Int) := of_decide_eq_true (by first | (with_reducible assumption) | assumption); have q543 : t542 < (l0.length : Int) := of_decide_eq_true (by first | (with_reducible assumption) | assumption); obtain ⟨ad543, e543, hx543_0, hx543_1, hx543_2, hx543_3⟩ := at_T53 HR0.out t542 p543 q543; cases e543; replace hx543_0 := (HB.out.cell (World.block_lt_of_cell? w _ hx543_0)).trans hx543_0; replace hx543_1 := (HB.out.cell (World.block_lt_of_cell? w _ hx543_1)).trans hx543_1; replace hx543_2 := (HB.out.cell (World.block_lt_of_cell? w _ hx543_2)).trans hx543_2; replace hx543_3 := (HB.out.cell (World.block_lt_of_cell? w _ hx543_3)).trans hx543_3; replace p543 := eq_true p543; replace q543 := eq_true q543; have hcz14_0 : w13.cell? ⟨gb540, 0, none⟩ = some (.int .i64 0) := (blk_cell BK540.out 0).trans rfl; have hcz14_1 : w13.cell? ⟨gb540, 1, none⟩ = some (.int .i64 0) := (blk_cell BK540.out 1).trans rfl; have hcz14_2 : w13.cell? ⟨gb540, 2, none⟩ = some (.int .i64 0) := (blk_cell BK540.out 2).trans rfl; have hcz14_3 : w13.cell? ⟨gb540, 3, none⟩ = some (.bool false) := (blk_cell BK540.out 3).trans rfl; have hfz14_0 := blk_frozen BK540.out 0; have hfz14_1 := blk_frozen BK540.out 1; have hfz14_2 := blk_frozen BK540.out 2; have hfz14_3 := blk_frozen BK540.out 3))
         refine bodyPost_ret (results_ct rfl _ _ gb540 171 #[.int .i64 a1, .int .i64 t541, .int .i64 t542, .bool (((rd_T53 l0 t542).f0) == 4)] (0, 0) _ rfl (by (with_reducible repeat (first | refine blk_drewN ?_ _ | refine blk_drew ?_ | refine blk_alloc ?_ _)); refine blk_put (cs := #[.int .i64 a1, .int .i64 t541, .int .i64 t542, .bool false]) ?_ 3 _ rfl; (with_reducible repeat (first | refine blk_drewN ?_ _ | refine blk_drew ?_ | refine blk_alloc ?_ _)); refine blk_put (cs := #[.int .i64 a1, .int .i64 t541, .int .i64 0, .bool false]) ?_ 2 _ rfl; (with_reducible repeat (first | refine blk_drewN ?_ _ | refine blk_drew ?_ | refine blk_alloc ?_ _)); refine blk_put (cs := #[.int .i64 a1, .int .i64 0, .int .i64 0, .bool false]) ?_ 1 _ rfl; (with_reducible repeat (first | refine blk_drewN ?_ _ | refine blk_drew ?_ | refine blk_alloc ?_ _)); refine blk_put (cs := #[.int .i64 0, .int .i64 0, .int .i64 0, .bool false]) ?_ 0 _ rfl; (with_reducible repeat (first | refine blk_drewN ?_ _ | refine blk_drew ?_ | refine blk_alloc ?_ _)); exact BK540.out) Tryz.underlying171 rfl (by kernel_rfl)) rfl ?_
         exact ⟨by first | rfl | (simp [errW_none, errW_some] <;> rfl) | (simp [*, errW_none, errW_some] <;> rfl) | (simp [bne]; done) | (simp [*, bne]; done), by repeat (first | (with_reducible first | exact HB.out | apply below_alloc | apply pw_below_drewN | apply below_drew1 | refine below_set ?_ GE540.out) | exact HB.out)⟩
       · rw [if_neg c12] at H
         exact absurd H (by simp)
     · rw [if_neg c11] at H
       exact absurd H (by simp)
end Go.Proofs.YtjlpjpjodhkpdaaGreatDoor.Q
