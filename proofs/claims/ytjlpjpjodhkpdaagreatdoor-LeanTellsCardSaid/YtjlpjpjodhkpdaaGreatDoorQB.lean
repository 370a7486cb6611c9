import Derived.Test.YtjlpjpjodhkpdaaGreatDoorQA
import Derived.Test.YtjlpjpjodhkpdaaGreatDoorRefTop
set_option maxHeartbeats 8000000
set_option maxRecDepth 100000
namespace Go.Proofs.YtjlpjpjodhkpdaaGreatDoor.Q
open Go.RowKit Go.Proofs.YtjlpjpjodhkpdaaGreatDoorW.PrintWords Go.Proofs.YtjlpjpjodhkpdaaGreatDoorW.PrintLast
set_option linter.unusedVariables false
set_option linter.unusedSimpArgs false
attribute [local go_sem high] eqA53
/-! ### cartoucheref01_Num: function 49 -/
def cartoucheref01_Num.l0 : Nat → Int → ByteArray → Int → Option (ByteArray)
 | 0, _, _, _ => none
 | k + 1, x0, x3, x4 => if x0 > 0 then ((some (([(Int.tmod x0 256) % 256] : List Int) : List Int)).bind fun y153 => (if (strOfNums y153).size + x3.size ≤ 9223372036854775807 then (cartoucheref01_Num.l0 k (IntKind.u64.wrap (Int.tdiv x0 256)) ((strOfNums y153) ++ x3) (wrap64 (x4 + 1))) else (none))) else ((some (([(x4) % 256] : List Int) : List Int)).bind fun y156 => (if (strOfNums y156).size + x3.size ≤ 9223372036854775807 then (some ((strOfNums y156) ++ x3)) else (none)))
def cartoucheref01_Num.f (k : Nat) (a0 : Int) : Option (ByteArray) := cartoucheref01_Num.l0 k a0 (⟨#[]⟩ : ByteArray) 0
theorem cartoucheref01_Num.mono_l : ∀ k, (∀ y0 y1 y2, LeO (cartoucheref01_Num.l0 k y0 y1 y2) (cartoucheref01_Num.l0 (k + 1) y0 y1 y2))
 | 0 => fun _ _ _ r h => by simp [cartoucheref01_Num.l0] at h
 | k + 1 => by
    have ih0 := cartoucheref01_Num.mono_l k
    · intro y0 y1 y2
      unfold cartoucheref01_Num.l0
      repeat' first
      | (with_reducible exact ih0 _ _ _)
      | (with_reducible exact LeO.refl _)
      | (with_reducible exact LeO.none _)
      | (with_reducible refine LeO.ite ?_ ?_)
      | (with_reducible refine LeO.bind ?_ (fun _ => ?_))
      | exact ih0 _ _ _
      | exact LeO.none _
      | refine LeO.ite ?_ ?_
      | refine LeO.bind ?_ (fun _ => ?_)
theorem cartoucheref01_Num.mono : ∀ a0 k, LeO (cartoucheref01_Num.f k a0) (cartoucheref01_Num.f (k + 1) a0) := by
 intro a0 k
 have ih0 := cartoucheref01_Num.mono_l k
 unfold cartoucheref01_Num.f
 repeat' first
  | (with_reducible exact ih0 _ _ _)
  | (with_reducible exact LeO.refl _)
  | (with_reducible exact LeO.none _)
  | (with_reducible refine LeO.ite ?_ ?_)
  | (with_reducible refine LeO.bind ?_ (fun _ => ?_))
  | exact ih0 _ _ _
  | exact LeO.none _
  | refine LeO.ite ?_ ?_
  | refine LeO.bind ?_ (fun _ => ?_)
theorem cartoucheref01_Num.calls (k : Nat) (a0 : Int) (r : ByteArray) (w : World) (h : cartoucheref01_Num.f k a0 = some r) :
 Calls Tryz.prog 49 #[.int .u64 a0] w fun e w' => e = .returned (.string r) ∧ Below w.heap.size w w' := by
 have HB := Aside0.mk (Below.refl w.heap.size w)
 have H : (cartoucheref01_Num.l0 k a0 (⟨#[]⟩ : ByteArray) 0) = some r := h
 clear h
 have H' := Aside0.mk H
 clear H
 go_enter Tryz.func49, Tryz.ntmps49
 go_wp2
 go_loopg [0, 3, 4] k (fun kq v0 v3 v4 w' => ∃ (x0_1 : Int) (x3_1 : ByteArray) (x4_1 : Int), v0 = .int .u64 x0_1 ∧ v3 = .string x3_1 ∧ v4 = .int .i64 x4_1 ∧ Aside0 (cartoucheref01_Num.l0 kq x0_1 x3_1 x4_1 = some r) ∧ Aside0 (kq ≤ k) ∧ Aside0 (Below w.heap.size w w'))
 case atStart => exact ⟨(a0), ((⟨#[]⟩ : ByteArray)), (0), (by first | rfl | (simp; done) | (simp [*]; done)), (by first | rfl | (simp; done) | (simp [*]; done)), (by first | rfl | (simp; done) | (simp [*]; done)), H', ⟨Nat.le_refl _⟩, ⟨by repeat (first | (with_reducible first | exact HB.out | apply below_alloc | apply pw_below_drewN | apply below_drew1) | exact HB.out)⟩⟩
 case round =>
  clear H'
  obtain ⟨x0_1, x3_1, x4_1, rfl, rfl, rfl, HA, HK1, HB⟩ := hrel
  cases gk with
  | zero => exact absurd HA.out (by simp [cartoucheref01_Num.l0])
  | succ k1 =>
     have H := HA.out
     clear HA
     simp only [cartoucheref01_Num.l0] at H
     by_cases c2 : x0_1 > 0
     · rw [if_pos c2] at H
       have c2b0 : decide (0 < x0_1) = true := decide_eq_true c2
       clear c2
       obtain ⟨y153, hy153⟩ : ∃ y_ : List Int, y_ = (([(Int.tmod x0_1 256) % 256] : List Int)) := ⟨_, rfl⟩
       replace H : (if (strOfNums y153).size + x3_1.size ≤ 9223372036854775807 then (cartoucheref01_Num.l0 k1 (IntKind.u64.wrap (Int.tdiv x0_1 256)) ((strOfNums y153) ++ x3_1) (wrap64 (x4_1 + 1))) else (none)) = some r := by first | (rw [hy153]; with_reducible exact H) | (have H2_ := (Option.bind_some _ _).symm.trans H; rw [hy153]; with_reducible exact H2_) | (have H2_ := (Option.bind_some _ _).symm.trans H; with_reducible exact H2_) | with_reducible exact H | (rw [hy153]; exact H) | exact H
       have Ny153 := Aside0.mk hy153
       clear hy153
       by_cases c3 : (strOfNums y153).size + x3_1.size ≤ 9223372036854775807
       · rw [if_pos c3] at H
         have c3b0 := eq_true c3
         have c3b1 : decide ((strOfNums y153).size + x3_1.size ≤ 9223372036854775807) = true := decide_eq_true c3
         try have c3b2 : (9223372036854775807 < (strOfNums y153).size + x3_1.size) = False := eq_false (Nat.not_lt.2 c3)
         have H' := Aside0.mk H
         clear H
         go_wp2_with (first | ((with_reducible refine gate_dst (N := 10) rfl ?_); refine Kd.R_lit (Kd.int .u8) _ 5 ?hg (N := 10) ?hd (xs := ([(Int.tmod x0_1 256) % 256] : List Int)) (inner := [.int .u8 ((Int.tmod x0_1 256) % 256)]) (ok := fun _ => True) (okp := fun _ => True) ?hr ?hp (fun _ hk => hk) trivial (Below.refl _ _) (Nat.le_refl _) (by simp) ?_; (case hd => rfl); (case hg => rfl); (case hr => first | (go_simp; done) | (go_simp; rfl)); (case hp => exact (Reps.one (show Kd.M (Kd.int .u8) _ _ _ ((Int.tmod x0_1 256) % 256) [.int .u8 ((Int.tmod x0_1 256) % 256)] from rfl) (Reps.none _ _))); intro v154 w4 ho5 hb hg_ hnew_; clear hg_ hnew_; (first | rw [← Ny153.out] at ho5 | (simp only [Int.reduceToNat] at ho5; rw [← Ny153.out] at ho5)); have n0_ := Aside0.mk (Kd.R_lower ho5 (below_size (by repeat (first | (with_reducible first | exact HB.out | apply below_alloc | apply pw_below_drewN | apply below_drew1) | exact HB.out)))); have n1_ := Aside0.mk (below_step (by repeat (first | (with_reducible first | exact HB.out | apply below_alloc | apply pw_below_drewN | apply below_drew1) | exact HB.out)) hb); clear HB; have HO155 := n0_; have HB := n1_; clear n0_ n1_; clear hb ho5; have hcv6 := own_string (P := Tryz.prog) Tryz.underlying90 Tryz.underlying5 Tryz.underlying9 (Kd.own_of_R HO155.out)))
         go_roundg k1
         case measure => have := HK1.out; omega
         case rel => exact ⟨(IntKind.u64.wrap (Int.tdiv x0_1 256)), ((strOfNums y153) ++ x3_1), (wrap64 (x4_1 + 1)), (by first | rfl | (simp; done) | (simp [*]; done)), (by first | rfl | (simp; done) | (simp [*]; done)), (by first | rfl | (simp; done) | (simp [*]; done)), H', ⟨by have := HK1.out; omega⟩, ⟨by repeat (first | (with_reducible first | exact HB.out | apply below_alloc | apply pw_below_drewN | apply below_drew1) | exact HB.out)⟩⟩
       · rw [if_neg c3] at H
         exact absurd H (by simp)
     · rw [if_neg c2] at H
       have c2b0 : decide (0 < x0_1) = false := decide_eq_false c2
       clear c2
       obtain ⟨y156, hy156⟩ : ∃ y_ : List Int, y_ = (([(x4_1) % 256] : List Int)) := ⟨_, rfl⟩
       replace H : (if (strOfNums y156).size + x3_1.size ≤ 9223372036854775807 then (some ((strOfNums y156) ++ x3_1)) else (none)) = some r := by first | (rw [hy156]; with_reducible exact H) | (have H2_ := (Option.bind_some _ _).symm.trans H; rw [hy156]; with_reducible exact H2_) | (have H2_ := (Option.bind_some _ _).symm.trans H; with_reducible exact H2_) | with_reducible exact H | (rw [hy156]; exact H) | exact H
       have Ny156 := Aside0.mk hy156
       clear hy156
       by_cases c7 : (strOfNums y156).size + x3_1.size ≤ 9223372036854775807
       · rw [if_pos c7] at H
         have c7b0 := eq_true c7
         have c7b1 : decide ((strOfNums y156).size + x3_1.size ≤ 9223372036854775807) = true := decide_eq_true c7
         try have c7b2 : (9223372036854775807 < (strOfNums y156).size + x3_1.size) = False := eq_false (Nat.not_lt.2 c7)
         obtain rfl := Option.some.inj H
         go_wp2_with (first | ((with_reducible refine gate_dst (N := 20) rfl ?_); refine Kd.R_lit (Kd.int .u8) _ 5 ?hg (N := 20) ?hd (xs := ([(x4_1) % 256] : List Int)) (inner := [.int .u8 ((x4_1) % 256)]) (ok := fun _ => True) (okp := fun _ => True) ?hr ?hp (fun _ hk => hk) trivial (Below.refl _ _) (Nat.le_refl _) (by simp) ?_; (case hd => rfl); (case hg => rfl); (case hr => first | (go_simp; done) | (go_simp; rfl)); (case hp => exact (Reps.one (show Kd.M (Kd.int .u8) _ _ _ ((x4_1) % 256) [.int .u8 ((x4_1) % 256)] from rfl) (Reps.none _ _))); intro v157 w8 ho9 hb hg_ hnew_; clear hg_ hnew_; (first | rw [← Ny156.out] at ho9 | (simp only [Int.reduceToNat] at ho9; rw [← Ny156.out] at ho9)); have n0_ := Aside0.mk (Kd.R_lower ho9 (below_size (by repeat (first | (with_reducible first | exact HB.out | apply below_alloc | apply pw_below_drewN | apply below_drew1) | exact HB.out)))); have n1_ := Aside0.mk (below_step (by repeat (first | (with_reducible first | exact HB.out | apply below_alloc | apply pw_below_drewN | apply below_drew1) | exact HB.out)) hb); clear HB; have HO158 := n0_; have HB := n1_; clear n0_ n1_; clear hb ho9; have hcv10 := own_string (P := Tryz.prog) Tryz.underlying90 Tryz.underlying5 Tryz.underlying9 (Kd.own_of_R HO158.out)))
         go_ret
         exact ⟨by first | rfl | (simp [errW_none, errW_some] <;> rfl) | (simp [*, errW_none, errW_some] <;> rfl) | (simp [bne]; done) | (simp [*, bne]; done), by repeat (first | (with_reducible first | exact HB.out | apply below_alloc | apply pw_below_drewN | apply below_drew1) | exact HB.out)⟩
       · rw [if_neg c7] at H
         exact absurd H (by simp)
def cartoucheref03_RootIn.f (k : Nat) (a0 : Int) (a1 : ByteArray) : Option (ByteArray) := (cartoucheref01_Num.f k (IntKind.u64.wrap (a0))).bind fun t159 => (if 1 + t159.size ≤ 9223372036854775807 then (if ((⟨#[2]⟩ : ByteArray) ++ t159).size + a1.size ≤ 9223372036854775807 then (some (((⟨#[2]⟩ : ByteArray) ++ t159) ++ a1)) else (none)) else (none))
theorem cartoucheref03_RootIn.mono : ∀ a0 a1 k, LeO (cartoucheref03_RootIn.f k a0 a1) (cartoucheref03_RootIn.f (k + 1) a0 a1) := by
 intro a0 a1 k
 unfold cartoucheref03_RootIn.f
 repeat' first
  | (with_reducible exact cartoucheref01_Num.mono _ _)
  | (with_reducible exact LeO.refl _)
  | (with_reducible exact LeO.none _)
  | (with_reducible refine LeO.ite ?_ ?_)
  | (with_reducible refine LeO.bind ?_ (fun _ => ?_))
  | exact cartoucheref01_Num.mono _ _
  | exact LeO.none _
  | refine LeO.ite ?_ ?_
  | refine LeO.bind ?_ (fun _ => ?_)
theorem cartoucheref03_RootIn.calls (k : Nat) (a0 : Int) (a1 : ByteArray) (r : ByteArray) (w : World) (h : cartoucheref03_RootIn.f k a0 a1 = some r) :
 Calls Tryz.prog 21 #[.int .i64 a0, .string a1] w fun e w' => e = .returned (.string r) ∧ Below w.heap.size w w' := by
 have HB := Aside0.mk (Below.refl w.heap.size w)
 have H : ((cartoucheref01_Num.f k (IntKind.u64.wrap (a0))).bind fun t159 => (if 1 + t159.size ≤ 9223372036854775807 then (if ((⟨#[2]⟩ : ByteArray) ++ t159).size + a1.size ≤ 9223372036854775807 then (some (((⟨#[2]⟩ : ByteArray) ++ t159) ++ a1)) else (none)) else (none))) = some r := h
 clear h
 replace H := Option.bind_eq_some_iff.mp H
 obtain ⟨t159, A30, H⟩ := H
 try dsimp only [-dreduceIte] at H
 have A3 := Aside0.mk A30
 clear A30
 by_cases c4 : 1 + t159.size ≤ 9223372036854775807
 · rw [if_pos c4] at H
   have c4b0 := eq_true c4
   have c4b1 : decide (1 + t159.size ≤ 9223372036854775807) = true := decide_eq_true c4
   try have c4b2 : (9223372036854775807 < 1 + t159.size) = False := eq_false (Nat.not_lt.2 c4)
   by_cases c5 : ((⟨#[2]⟩ : ByteArray) ++ t159).size + a1.size ≤ 9223372036854775807
   · rw [if_pos c5] at H
     have c5b0 := eq_true c5
     have c5b1 : decide (((⟨#[2]⟩ : ByteArray) ++ t159).size + a1.size ≤ 9223372036854775807) = true := decide_eq_true c5
     try have c5b2 : (9223372036854775807 < ((⟨#[2]⟩ : ByteArray) ++ t159).size + a1.size) = False := eq_false (Nat.not_lt.2 c5)
     try have c5b3 := c5b2
     try simp only [ByteArray.size_append] at c5b3
     obtain rfl := Option.some.inj H
     go_enter Tryz.func21, Tryz.ntmps21
     go_wp2_with (first | ((with_reducible refine look_callee (f := 49) rfl ?_); refine goesL_ (some 7) rfl rfl Tryz.func49 (by kernel_rfl) rfl #[.int .u64 (IntKind.u64.wrap (a0))] rfl (by (try simp only [List.map_toArray, List.map_cons, List.map_nil]); first | done | rfl | (simp only [List.length_drop, List.length_take]; rfl)) ?_; (with_reducible refine (cartoucheref01_Num.calls k (IntKind.u64.wrap (a0)) t159 _ A3.out).mono ?_); rintro e w6 ⟨rfl, hb⟩; refine ⟨_, rfl, ?_⟩; have n0_ := Aside0.mk (below_step (by repeat (first | (with_reducible first | exact HB.out | apply below_alloc | apply pw_below_drewN | apply below_drew1) | exact HB.out)) hb); clear HB; have HB := n0_; clear n0_; (try clear hb); (try clear hb2); (try clear hk); (try clear hi)))
     go_ret
     exact ⟨by first | rfl | (simp [errW_none, errW_some] <;> rfl) | (simp [*, errW_none, errW_some] <;> rfl) | (simp [bne]; done) | (simp [*, bne]; done), by repeat (first | (with_reducible first | exact HB.out | apply below_alloc | apply pw_below_drewN | apply below_drew1) | exact HB.out)⟩
   · rw [if_neg c5] at H
     exact absurd H (by simp)
 · rw [if_neg c4] at H
   exact absurd H (by simp)
def cartoucheref03_Crown.f (l0 : List ByteArray) : Option (ByteArray) := if (l0.length : Int) = 0 then (some (⟨#[]⟩ : ByteArray)) else ((cartoucheref03_Top.f l0).bind fun t160 => ((cartoucheref02_Sum.f t160).bind fun t161 => (some t161)))
theorem cartoucheref03_Crown.calls (A0 : Option Addr) (c0 : Nat) (l0 : List ByteArray) (r : ByteArray) (w : World) (hr0 : Kd.C Kd.string w A0 l0.length l0) (hc0 : l0.length ≤ c0) (h : cartoucheref03_Crown.f l0 = some r) :
 Calls Tryz.prog 22 #[.slice A0 l0.length c0] w fun e w' => e = .returned (.string r) ∧ Below w.heap.size w w' := by
 have HR0 := Aside0.mk hr0
 have HC0 := Aside0.mk hc0
 clear hr0 hc0
 have HB := Aside0.mk (Below.refl w.heap.size w)
 have H : (if (l0.length : Int) = 0 then (some (⟨#[]⟩ : ByteArray)) else ((cartoucheref03_Top.f l0).bind fun t160 => ((cartoucheref02_Sum.f t160).bind fun t161 => (some t161)))) = some r := h
 clear h
 by_cases c2 : (l0.length : Int) = 0
 · rw [if_pos c2] at H
   have c2b0 : ((l0.length : Int) == 0) = true := beq_iff_eq.mpr c2
   have c2b1 : ((l0.length : Int) != 0) = false := bne_eq_false_iff_eq.mpr c2
   clear c2
   obtain rfl := Option.some.inj H
   go_enter Tryz.func22, Tryz.ntmps22
   go_wp2
   go_ret
   exact ⟨by first | rfl | (simp [errW_none, errW_some] <;> rfl) | (simp [*, errW_none, errW_some] <;> rfl) | (simp [bne]; done) | (simp [*, bne]; done), by repeat (first | (with_reducible first | exact HB.out | apply below_alloc | apply pw_below_drewN | apply below_drew1) | exact HB.out)⟩
 · rw [if_neg c2] at H
   have c2b0 : ((l0.length : Int) == 0) = false := beq_eq_false_iff_ne.mpr c2
   have c2b1 : ((l0.length : Int) != 0) = true := bne_iff_ne.mpr c2
   have c2b2 : ¬ (l0 = []) := fun h_ => c2 (by rw [h_]; rfl)
   replace H := Option.bind_eq_some_iff.mp H
   obtain ⟨t160, A30, H⟩ := H
   try dsimp only [-dreduceIte] at H
   have A3 := Aside0.mk A30
   clear A30
   replace H := Option.bind_eq_some_iff.mp H
   obtain ⟨t161, A40, H⟩ := H
   try dsimp only [-dreduceIte] at H
   have A4 := Aside0.mk A40
   clear A40
   obtain rfl := Option.some.inj H
   go_enter Tryz.func22, Tryz.ntmps22
   go_wp2_with (first | ((with_reducible refine look_callee (f := 50) rfl ?_); refine goesL_ (some 7) rfl rfl Tryz.func50 (by kernel_rfl) rfl #[.slice A0 l0.length c0] rfl (by (try simp only [List.map_toArray, List.map_cons, List.map_nil]); first | done | rfl | (simp only [List.length_drop, List.length_take]; rfl)) ?_; (with_reducible refine (cartoucheref03_Top.calls _ _ l0 t160 _ ?side1 ?side2 A3.out).mono ?_); (case side1 => repeat (first | exact HR0.out | (with_reducible refine Kd.C_alloc ?_ _) | (with_reducible refine Kd.C_drewN ?_ _) | (with_reducible refine Kd.C_drew ?_))); (case side2 => exact HC0.out); rintro e w5 ⟨rfl, hb⟩; refine ⟨_, rfl, ?_⟩; have n0_ := Aside0.mk (below_step (by repeat (first | (with_reducible first | exact HB.out | apply below_alloc | apply pw_below_drewN | apply below_drew1) | exact HB.out)) hb); clear HB; have HB := n0_; clear n0_; (try clear hb); (try clear hb2); (try clear hk); (try clear hi)) | ((with_reducible refine look_callee (f := 25) rfl ?_); refine goesL_ (some 8) rfl rfl Tryz.func25 (by kernel_rfl) rfl #[.string t160] rfl (by (try simp only [List.map_toArray, List.map_cons, List.map_nil]); first | done | rfl | (simp only [List.length_drop, List.length_take]; rfl)) ?_; (with_reducible refine (cartoucheref02_Sum.calls t160 t161 _ A4.out).mono ?_); rintro e w6 ⟨rfl, hb⟩; refine ⟨_, rfl, ?_⟩; have n0_ := Aside0.mk (below_step (by repeat (first | (with_reducible first | exact HB.out | apply below_alloc | apply pw_below_drewN | apply below_drew1) | exact HB.out)) hb); clear HB; have HB := n0_; clear n0_; (try clear hb); (try clear hb2); (try clear hk); (try clear hi)))
   go_ret
   exact ⟨by first | rfl | (simp [errW_none, errW_some] <;> rfl) | (simp [*, errW_none, errW_some] <;> rfl) | (simp [bne]; done) | (simp [*, bne]; done), by repeat (first | (with_reducible first | exact HB.out | apply below_alloc | apply pw_below_drewN | apply below_drew1) | exact HB.out)⟩
def cartoucheref03_Root.f (k : Nat) (l0 : List ByteArray) : Option (ByteArray × Int) := if (l0.length : Int) > 4096 then (some ((⟨#[]⟩ : ByteArray), 4)) else ((cartoucheref03_Crown.f l0).bind fun t162 => ((cartoucheref03_RootIn.f k (l0.length : Int) t162).bind fun t163 => ((cartoucheref02_Sum.f t163).bind fun t164 => (some (t164, 0)))))
theorem cartoucheref03_Root.mono : ∀ a0 k, LeO (cartoucheref03_Root.f k a0) (cartoucheref03_Root.f (k + 1) a0) := by
 intro a0 k
 unfold cartoucheref03_Root.f
 repeat' first
  | (with_reducible exact cartoucheref03_RootIn.mono _ _ _)
  | (with_reducible exact LeO.refl _)
  | (with_reducible exact LeO.none _)
  | (with_reducible refine LeO.ite ?_ ?_)
  | (with_reducible refine LeO.bind ?_ (fun _ => ?_))
  | exact cartoucheref03_RootIn.mono _ _ _
  | exact LeO.none _
  | refine LeO.ite ?_ ?_
  | refine LeO.bind ?_ (fun _ => ?_)
theorem cartoucheref03_Root.calls (k : Nat) (A0 : Option Addr) (c0 : Nat) (l0 : List ByteArray) (r1 : ByteArray) (r2 : Int) (w : World) (hr0 : Kd.C Kd.string w A0 l0.length l0) (hc0 : l0.length ≤ c0) (h : cartoucheref03_Root.f k l0 = some (r1, r2)) :
 Calls Tryz.prog 20 #[.slice A0 l0.length c0] w fun e w' => e = .returned (.tuple #[.string r1, .int .i64 r2]) ∧ Below w.heap.size w w' := by
 have HR0 := Aside0.mk hr0
 have HC0 := Aside0.mk hc0
 clear hr0 hc0
 have HB := Aside0.mk (Below.refl w.heap.size w)
 have H : (if (l0.length : Int) > 4096 then (some ((⟨#[]⟩ : ByteArray), 4)) else ((cartoucheref03_Crown.f l0).bind fun t162 => ((cartoucheref03_RootIn.f k (l0.length : Int) t162).bind fun t163 => ((cartoucheref02_Sum.f t163).bind fun t164 => (some (t164, 0)))))) = some (r1, r2) := h
 clear h
 by_cases c2 : (l0.length : Int) > 4096
 · rw [if_pos c2] at H
   have c2b0 : decide (4096 < (l0.length : Int)) = true := decide_eq_true c2
   have c2b1 : decide (4096 < l0.length) = true := decide_eq_true (by omega)
   clear c2
   simp only [Option.some.injEq, Prod.mk.injEq] at H
   obtain ⟨rfl, rfl⟩ := H
   go_enter Tryz.func20, Tryz.ntmps20
   go_wp2
   go_ret2
   exact ⟨by first | rfl | (simp [errW_none, errW_some] <;> rfl) | (simp [*, errW_none, errW_some] <;> rfl) | (simp [bne]; done) | (simp [*, bne]; done), by repeat (first | (with_reducible first | exact HB.out | apply below_alloc | apply pw_below_drewN | apply below_drew1) | exact HB.out)⟩
 · rw [if_neg c2] at H
   have c2b0 : decide (4096 < (l0.length : Int)) = false := decide_eq_false c2
   have c2b1 : decide (4096 < l0.length) = false := decide_eq_false (by omega)
   clear c2
   replace H := Option.bind_eq_some_iff.mp H
   obtain ⟨t162, A30, H⟩ := H
   try dsimp only [-dreduceIte] at H
   have A3 := Aside0.mk A30
   clear A30
   replace H := Option.bind_eq_some_iff.mp H
   obtain ⟨t163, A40, H⟩ := H
   try dsimp only [-dreduceIte] at H
   have A4 := Aside0.mk A40
   clear A40
   replace H := Option.bind_eq_some_iff.mp H
   obtain ⟨t164, A50, H⟩ := H
   try dsimp only [-dreduceIte] at H
   have A5 := Aside0.mk A50
   clear A50
   simp only [Option.some.injEq, Prod.mk.injEq] at H
   obtain ⟨rfl, rfl⟩ := H
   go_enter Tryz.func20, Tryz.ntmps20
   go_wp2_with (first | ((with_reducible refine look_callee (f := 22) rfl ?_); refine goesL_ (some 10) rfl rfl Tryz.func22 (by kernel_rfl) rfl #[.slice A0 l0.length c0] rfl (by (try simp only [List.map_toArray, List.map_cons, List.map_nil]); first | done | rfl | (simp only [List.length_drop, List.length_take]; rfl)) ?_; (with_reducible refine (cartoucheref03_Crown.calls _ _ l0 t162 _ ?side1 ?side2 A3.out).mono ?_); (case side1 => repeat (first | exact HR0.out | (with_reducible refine Kd.C_alloc ?_ _) | (with_reducible refine Kd.C_drewN ?_ _) | (with_reducible refine Kd.C_drew ?_))); (case side2 => exact HC0.out); rintro e w6 ⟨rfl, hb⟩; refine ⟨_, rfl, ?_⟩; have n0_ := Aside0.mk (below_step (by repeat (first | (with_reducible first | exact HB.out | apply below_alloc | apply pw_below_drewN | apply below_drew1) | exact HB.out)) hb); clear HB; have HB := n0_; clear n0_; (try clear hb); (try clear hb2); (try clear hk); (try clear hi)) | ((with_reducible refine look_callee (f := 21) rfl ?_); refine goesL_ (some 11) rfl rfl Tryz.func21 (by kernel_rfl) rfl #[.int .i64 (l0.length : Int), .string t162] rfl (by (try simp only [List.map_toArray, List.map_cons, List.map_nil]); first | done | rfl | (simp only [List.length_drop, List.length_take]; rfl)) ?_; (with_reducible refine (cartoucheref03_RootIn.calls k (l0.length : Int) t162 t163 _ A4.out).mono ?_); rintro e w7 ⟨rfl, hb⟩; refine ⟨_, rfl, ?_⟩; have n0_ := Aside0.mk (below_step (by repeat (first | (with_reducible first | exact HB.out | apply below_alloc | apply pw_below_drewN | apply below_drew1) | exact HB.out)) hb); clear HB; have HB := n0_; clear n0_; (try clear hb); (try clear hb2); (try clear hk); (try clear hi)) | ((with_reducible refine look_callee (f := 25) rfl ?_); refine goesL_ (some 12) rfl rfl Tryz.func25 (by kernel_rfl) rfl #[.string t163] rfl (by (try simp only [List.map_toArray, List.map_cons, List.map_nil]); first | done | rfl | (simp only [List.length_drop, List.length_take]; rfl)) ?_; (with_reducible refine (cartoucheref02_Sum.calls t163 t164 _ A5.out).mono ?_); rintro e w8 ⟨rfl, hb⟩; refine ⟨_, rfl, ?_⟩; have n0_ := Aside0.mk (below_step (by repeat (first | (with_reducible first | exact HB.out | apply below_alloc | apply pw_below_drewN | apply below_drew1) | exact HB.out)) hb); clear HB; have HB := n0_; clear n0_; (try clear hb); (try clear hb2); (try clear hk); (try clear hi)))
   go_ret2
   exact ⟨by first | rfl | (simp [errW_none, errW_some] <;> rfl) | (simp [*, errW_none, errW_some] <;> rfl) | (simp [bne]; done) | (simp [*, bne]; done), by repeat (first | (with_reducible first | exact HB.out | apply below_alloc | apply pw_below_drewN | apply below_drew1) | exact HB.out)⟩
def cartoucheref03_half.l0 : Nat → Int → Int → Option (Int)
 | 0, _, _ => none
 | k + 1, x0, x3 => if (wrap64 (x3 + x3)) < x0 then (cartoucheref03_half.l0 k x0 (wrap64 (x3 + x3))) else (some x3)
def cartoucheref03_half.f (k : Nat) (a0 : Int) : Option (Int) := cartoucheref03_half.l0 k a0 1
theorem cartoucheref03_half.mono_l : ∀ k, (∀ y0 y1, LeO (cartoucheref03_half.l0 k y0 y1) (cartoucheref03_half.l0 (k + 1) y0 y1))
 | 0 => fun _ _ r h => by simp [cartoucheref03_half.l0] at h
 | k + 1 => by
    have ih0 := cartoucheref03_half.mono_l k
    · intro y0 y1
      unfold cartoucheref03_half.l0
      repeat' first
      | (with_reducible exact ih0 _ _)
      | (with_reducible exact LeO.refl _)
      | (with_reducible exact LeO.none _)
      | (with_reducible refine LeO.ite ?_ ?_)
      | (with_reducible refine LeO.bind ?_ (fun _ => ?_))
      | exact ih0 _ _
      | exact LeO.none _
      | refine LeO.ite ?_ ?_
      | refine LeO.bind ?_ (fun _ => ?_)
theorem cartoucheref03_half.mono : ∀ a0 k, LeO (cartoucheref03_half.f k a0) (cartoucheref03_half.f (k + 1) a0) := by
 intro a0 k
 have ih0 := cartoucheref03_half.mono_l k
 unfold cartoucheref03_half.f
 repeat' first
  | (with_reducible exact ih0 _ _)
  | (with_reducible exact LeO.refl _)
  | (with_reducible exact LeO.none _)
  | (with_reducible refine LeO.ite ?_ ?_)
  | (with_reducible refine LeO.bind ?_ (fun _ => ?_))
  | exact ih0 _ _
  | exact LeO.none _
  | refine LeO.ite ?_ ?_
  | refine LeO.bind ?_ (fun _ => ?_)
theorem cartoucheref03_half.calls (k : Nat) (a0 : Int) (r : Int) (w : World) (h : cartoucheref03_half.f k a0 = some r) :
 Calls Tryz.prog 55 #[.int .i64 a0] w fun e w' => e = .returned (.int .i64 r) ∧ Drawn0 w w' := by
 have H : (cartoucheref03_half.l0 k a0 1) = some r := h
 clear h
 have H' := Aside0.mk H
 clear H
 go_enter Tryz.func55, Tryz.ntmps55
 go_wp2
 go_loopg [3] k (fun kq v3 w' => ∃ (x3_1 : Int), v3 = .int .i64 x3_1 ∧ Aside0 (cartoucheref03_half.l0 kq a0 x3_1 = some r) ∧ Aside0 (kq ≤ k) ∧ Drawn0 w w')
 case atStart => exact ⟨(1), (by first | rfl | (simp; done) | (simp [*]; done)), H', ⟨Nat.le_refl _⟩, by repeat (first | exact Drawn0.refl _ | apply Drawn0.step)⟩
 case round =>
  clear H'
  obtain ⟨x3_1, rfl, HA, HK1, ⟨m1, rfl⟩⟩ := hrel
  cases gk with
  | zero => exact absurd HA.out (by simp [cartoucheref03_half.l0])
  | succ k1 =>
     have H := HA.out
     clear HA
     simp only [cartoucheref03_half.l0] at H
     by_cases c2 : (wrap64 (x3_1 + x3_1)) < a0
     · rw [if_pos c2] at H
       have c2b0 : decide ((wrap64 (x3_1 + x3_1)) < a0) = true := decide_eq_true c2
       clear c2
       have H' := Aside0.mk H
       clear H
       go_wp2
       go_roundg k1
       case measure => have := HK1.out; omega
       case rel => exact ⟨(wrap64 (x3_1 + x3_1)), (by first | rfl | (simp; done) | (simp [*]; done)), H', ⟨by have := HK1.out; omega⟩, by repeat (first | exact Drawn0.refl _ | apply Drawn0.step)⟩
     · rw [if_neg c2] at H
       have c2b0 : decide ((wrap64 (x3_1 + x3_1)) < a0) = false := decide_eq_false c2
       clear c2
       obtain rfl := Option.some.inj H
       go_wp2
       go_ret
       exact ⟨by first | rfl | (simp; done) | (simp [*]; done), by repeat (first | exact Drawn0.refl _ | apply Drawn0.step)⟩
mutual
def cartoucheref03_Path.j0 : Nat → List ByteArray → Int → Bool → Option (List ByteArray × Int)
 | 0, _, _, _ => none
 | k + 1, x0, x1, x21 => if x21 = true then (some (([] : List ByteArray), 1)) else (if (x0.length : Int) = 1 then (some (([] : List ByteArray), 0)) else ((cartoucheref03_half.f k (x0.length : Int)).bind fun t165 => (if x1 < t165 then (if 0 ≤ t165 then (if t165 ≤ (x0.length : Int) then ((cartoucheref03_Path.f k (x0.take (t165 : Int).toNat) x1).bind fun bt167 => ((cartoucheref03_Crown.f (x0.drop (t165 : Int).toNat)).bind fun t172 => (if bt167.1.length < 8796093022208 then (some ((bt167.1 ++ [t172]), 0)) else (none)))) else (none)) else (none)) else (if 0 ≤ t165 then (if t165 ≤ (x0.length : Int) then ((cartoucheref03_Path.f k (x0.drop (t165 : Int).toNat) (wrap64 (x1 - t165))).bind fun bt177 => ((cartoucheref03_Crown.f (x0.take (t165 : Int).toNat)).bind fun t182 => (if bt177.1.length < 8796093022208 then (some ((bt177.1 ++ [t182]), 0)) else (none)))) else (none)) else (none)))))
def cartoucheref03_Path.f : Nat → List ByteArray → Int → Option (List ByteArray × Int)
 | 0, _, _ => none
 | k + 1, l0, a1 => if (l0.length : Int) > 4096 then (some (([] : List ByteArray), 4)) else (if a1 < 0 then (cartoucheref03_Path.j0 k l0 a1 true) else (cartoucheref03_Path.j0 k l0 a1 (decide (a1 ≥ (l0.length : Int)))))
end
theorem cartoucheref03_Path.mono_l : ∀ k, (∀ y0 y1, LeO (cartoucheref03_Path.f k y0 y1) (cartoucheref03_Path.f (k + 1) y0 y1)) ∧ (∀ y0 y1 y2, LeO (cartoucheref03_Path.j0 k y0 y1 y2) (cartoucheref03_Path.j0 (k + 1) y0 y1 y2))
 | 0 => ⟨fun _ _ r h => by simp [cartoucheref03_Path.f] at h, fun _ _ _ r h => by simp [cartoucheref03_Path.j0] at h⟩
 | k + 1 => by
    obtain ⟨ih0, ih1⟩ := cartoucheref03_Path.mono_l k
    refine ⟨?_, ?_⟩
    · intro y0 y1
      unfold cartoucheref03_Path.f
      repeat' first
      | (with_reducible exact ih0 _ _)
      | (with_reducible exact ih1 _ _ _)
      | (with_reducible exact cartoucheref03_half.mono _ _)
      | (with_reducible exact LeO.refl _)
      | (with_reducible exact LeO.none _)
      | (with_reducible refine LeO.ite ?_ ?_)
      | (with_reducible refine LeO.bind ?_ (fun _ => ?_))
      | exact ih0 _ _
      | exact ih1 _ _ _
      | exact cartoucheref03_half.mono _ _
      | exact LeO.none _
      | refine LeO.ite ?_ ?_
      | refine LeO.bind ?_ (fun _ => ?_)
    · intro y0 y1 y2
      unfold cartoucheref03_Path.j0
      repeat' first
      | (with_reducible exact ih0 _ _)
      | (with_reducible exact ih1 _ _ _)
      | (with_reducible exact cartoucheref03_half.mono _ _)
      | (with_reducible exact LeO.refl _)
      | (with_reducible exact LeO.none _)
      | (with_reducible refine LeO.ite ?_ ?_)
      | (with_reducible refine LeO.bind ?_ (fun _ => ?_))
      | exact ih0 _ _
      | exact ih1 _ _ _
      | exact cartoucheref03_half.mono _ _
      | exact LeO.none _
      | refine LeO.ite ?_ ?_
      | refine LeO.bind ?_ (fun _ => ?_)
theorem cartoucheref03_Path.mono : ∀ a0 a1 k, LeO (cartoucheref03_Path.f k a0 a1) (cartoucheref03_Path.f (k + 1) a0 a1) := by
 intro a0 a1 k
 obtain ⟨ih0, ih1⟩ := cartoucheref03_Path.mono_l k
 exact ih0 a0 a1
theorem cartoucheref03_Path.calls (k : Nat) : ∀ (A0 : Option Addr) (c0 : Nat) (l0 : List ByteArray) (a1 : Int) (r1 : List ByteArray) (r2 : Int) (w : World) (hr0 : Kd.C Kd.string w A0 l0.length l0) (hc0 : l0.length ≤ c0) (h : cartoucheref03_Path.f k l0 a1 = some (r1, r2)),
 Calls Tryz.prog 26 #[.slice A0 l0.length c0, .int .i64 a1] w fun e w' => ∃ v0_ : Value, e = .returned (.tuple #[v0_, .int .i64 r2]) ∧ Kd.R Kd.string 9 w' w.heap.size (fun _ => True) v0_ r1 ∧ Below w.heap.size w w' := by
 induction k using Nat.strongRecOn with
 | _ k ih =>
 intro A0 c0 l0 a1 r1 r2 w hr0 hc0 h
 cases k with
 | zero => exact absurd h (by simp [cartoucheref03_Path.f])
 | succ k =>
 simp only [cartoucheref03_Path.f] at h
 have HR0 := Aside0.mk hr0
 have HC0 := Aside0.mk hc0
 clear hr0 hc0
 have HB := Aside0.mk (Below.refl w.heap.size w)
 have H : (if (l0.length : Int) > 4096 then (some (([] : List ByteArray), 4)) else (if a1 < 0 then (cartoucheref03_Path.j0 k l0 a1 true) else (cartoucheref03_Path.j0 k l0 a1 (decide (a1 ≥ (l0.length : Int)))))) = some (r1, r2) := h
 clear h
 by_cases c3 : (l0.length : Int) > 4096
 · rw [if_pos c3] at H
   have c3b0 : decide (4096 < (l0.length : Int)) = true := decide_eq_true c3
   have c3b1 : decide (4096 < l0.length) = true := decide_eq_true (by omega)
   clear c3
   simp only [Option.some.injEq, Prod.mk.injEq] at H
   obtain ⟨rfl, rfl⟩ := H
   go_enter Tryz.func26, Tryz.ntmps26
   go_wp2
   go_ret2
   exact ⟨_, by first | rfl | (simp [errW_none, errW_some] <;> rfl) | (simp [*, errW_none, errW_some] <;> rfl), by first | exact Kd.R_nil _ _ _ _ _ | exact Kd.N_nil _ _ _ _ _ | exact Kd.V_nil _ _ _ _ _ | exact Kd.Q_nil _ _ _ _ _ | exact Kd.S_nil _ _ _ _ _, by repeat (first | (with_reducible first | exact HB.out | apply below_alloc | apply pw_below_drewN | apply below_drew1) | exact HB.out)⟩
 · rw [if_neg c3] at H
   have c3b0 : decide (4096 < (l0.length : Int)) = false := decide_eq_false c3
   have c3b1 : decide (4096 < l0.length) = false := decide_eq_false (by omega)
   clear c3
   have HC4 := Aside0.mk H
   clear H
   go_enter Tryz.func26, Tryz.ntmps26
   go_upto_region 3 with (fail)
   go_cut [21] (fun v21 wc => ∃ (kq : Nat) (x21_3 : Bool), v21 = .bool x21_3 ∧ Aside0 (cartoucheref03_Path.j0 kq l0 a1 x21_3 = some (r1, r2)) ∧ Aside0 (kq ≤ k) ∧ Aside0 (Below w.heap.size w wc))
   case first =>
    have H := HC4.out
    clear HC4
    by_cases c5 : a1 < 0
    · rw [if_pos c5] at H
      have c5b0 : decide (a1 < 0) = true := decide_eq_true c5
      clear c5
      (first | rw [c5b0] | (simp only [i64_w, i32_w]; rw [c5b0]) | skip)
      have H' := Aside0.mk H
      clear H
      go_wp2
      go_meet
      case rel => exact ⟨_, (true), (by first | rfl | (simp; done) | (simp [*]; done)), H', ⟨by first | omega | exact Nat.le_refl _⟩, ⟨by repeat (first | (with_reducible first | exact HB.out | apply below_alloc | apply pw_below_drewN | apply below_drew1) | exact HB.out)⟩⟩
    · rw [if_neg c5] at H
      have c5b0 : decide (a1 < 0) = false := decide_eq_false c5
      clear c5
      (first | rw [c5b0] | (simp only [i64_w, i32_w]; rw [c5b0]) | skip)
      have H' := Aside0.mk H
      clear H
      go_wp2
      go_meet
      case rel => exact ⟨_, (decide (a1 ≥ (l0.length : Int))), (by first | rfl | (simp; done) | (simp [*]; done)), H', ⟨by first | omega | exact Nat.le_refl _⟩, ⟨by repeat (first | (with_reducible first | exact HB.out | apply below_alloc | apply pw_below_drewN | apply below_drew1) | exact HB.out)⟩⟩
   case rest =>
    clear HC4
    try clear c2
    try clear p2
    try clear c3
    try clear c3b0
    try clear c3b1
    try clear c5
    try clear c5b0
    obtain ⟨kq, x21_3, rfl, HA, HJ3, HB⟩ := hcut
    cases kq with
    | zero => exact absurd HA.out (by simp [cartoucheref03_Path.j0])
    | succ kj3 =>
       have H := HA.out
       clear HA
       simp only [cartoucheref03_Path.j0] at H
       by_cases c6 : x21_3 = true
       · subst c6
         rw [if_pos rfl] at H
         simp only [Option.some.injEq, Prod.mk.injEq] at H
         obtain ⟨rfl, rfl⟩ := H
         go_wp2
         go_ret2
         exact ⟨_, by first | rfl | (simp [errW_none, errW_some] <;> rfl) | (simp [*, errW_none, errW_some] <;> rfl), by first | exact Kd.R_nil _ _ _ _ _ | exact Kd.N_nil _ _ _ _ _ | exact Kd.V_nil _ _ _ _ _ | exact Kd.Q_nil _ _ _ _ _ | exact Kd.S_nil _ _ _ _ _, by repeat (first | (with_reducible first | exact HB.out | apply below_alloc | apply pw_below_drewN | apply below_drew1) | exact HB.out)⟩
       · replace c6 := Bool.eq_false_iff.mpr c6
         subst c6
         rw [if_neg (show ¬ (false = true) by decide)] at H
         by_cases c7 : (l0.length : Int) = 1
         · rw [if_pos c7] at H
           have c7b0 : ((l0.length : Int) == 1) = true := beq_iff_eq.mpr c7
           have c7b1 : ((l0.length : Int) != 1) = false := bne_eq_false_iff_eq.mpr c7
           clear c7
           simp only [Option.some.injEq, Prod.mk.injEq] at H
           obtain ⟨rfl, rfl⟩ := H
           go_wp2
           go_ret2
           exact ⟨_, by first | rfl | (simp [errW_none, errW_some] <;> rfl) | (simp [*, errW_none, errW_some] <;> rfl), by first | exact Kd.R_nil _ _ _ _ _ | exact Kd.N_nil _ _ _ _ _ | exact Kd.V_nil _ _ _ _ _ | exact Kd.Q_nil _ _ _ _ _ | exact Kd.S_nil _ _ _ _ _, by repeat (first | (with_reducible first | exact HB.out | apply below_alloc | apply pw_below_drewN | apply below_drew1) | exact HB.out)⟩
         · rw [if_neg c7] at H
           have c7b0 : ((l0.length : Int) == 1) = false := beq_eq_false_iff_ne.mpr c7
           have c7b1 : ((l0.length : Int) != 1) = true := bne_iff_ne.mpr c7
           replace H := Option.bind_eq_some_iff.mp H
           obtain ⟨t165, A80, H⟩ := H
           try dsimp only [-dreduceIte] at H
           have A8 := Aside0.mk A80
           clear A80
           by_cases c9 : a1 < t165
           · rw [if_pos c9] at H
             have c9b0 : decide (a1 < t165) = true := decide_eq_true c9
             clear c9
             by_cases c10 : 0 ≤ t165
             · rw [if_pos c10] at H
               have c10b0 := eq_true c10
               have c10b1 : decide (0 ≤ t165) = true := decide_eq_true c10
               clear c10
               by_cases c11 : t165 ≤ (l0.length : Int)
               · rw [if_pos c11] at H
                 have c11b0 := eq_true c11
                 have c11b1 : decide (t165 ≤ (l0.length : Int)) = true := decide_eq_true c11
                 clear c11
                 replace H := Option.bind_eq_some_iff.mp H
                 obtain ⟨⟨t167, t168⟩, A120, H⟩ := H
                 try dsimp only [-dreduceIte] at H
                 have A12 := Aside0.mk A120
                 clear A120
                 have c13b0 := eq_true (of_decide_eq_true (by first | (with_reducible assumption) | assumption) : 0 ≤ t165)
                 have c14b0 := eq_true (of_decide_eq_true (by first | (with_reducible assumption) | assumption) : t165 ≤ (l0.length : Int))
                 replace H := Option.bind_eq_some_iff.mp H
                 obtain ⟨t172, A150, H⟩ := H
                 try dsimp only [-dreduceIte] at H
                 have A15 := Aside0.mk A150
                 clear A150
                 by_cases c16 : t167.length < 8796093022208
                 · rw [if_pos c16] at H
                   have LMc16 := Aside0.mk c16
                   clear c16
                   obtain ⟨y173, hy173⟩ : ∃ y_ : List ByteArray, y_ = (t167 ++ [t172]) := ⟨_, rfl⟩
                   replace H : (some (y173, 0)) = some (r1, r2) := by first | (rw [hy173]; with_reducible exact H) | (have H2_ := (Option.bind_some _ _).symm.trans H; rw [hy173]; with_reducible exact H2_) | (have H2_ := (Option.bind_some _ _).symm.trans H; with_reducible exact H2_) | with_reducible exact H | (rw [hy173]; exact H) | exact H
                   have Ny173 := Aside0.mk hy173
                   clear hy173
                   simp only [Option.some.injEq, Prod.mk.injEq] at H
                   obtain ⟨rfl, rfl⟩ := H
                   go_wp2_with (first | ((with_reducible refine look_callee (f := 55) rfl ?_); refine goesL_ (some 27) rfl rfl Tryz.func55 (by kernel_rfl) rfl #[.int .i64 (l0.length : Int)] rfl (by (try simp only [List.map_toArray, List.map_cons, List.map_nil]); first | done | rfl | (simp only [List.length_drop, List.length_take]; rfl)) ?_; (with_reducible refine (cartoucheref03_half.calls kj3 (l0.length : Int) t165 _ A8.out).mono ?_); rintro e w' ⟨rfl, ⟨nd, rfl⟩⟩; refine ⟨_, rfl, ?_⟩; obtain ⟨i017, hi017, _, hsz17, _⟩ := info_parts info9; obtain ⟨hcut17, hA17, hC17⟩ := print_take_of (P := Tryz.prog) Value.string (⟨#[]⟩ : ByteArray) 45 9 .i64 Tryz.underlying45 hi017 hsz17 A0 c0 l0 t165 (of_decide_eq_true (by first | (with_reducible assumption) | assumption)) (of_decide_eq_true (by first | (with_reducible assumption) | assumption)) HC0.out; have HR166 := Aside0.mk (Kd.C_of_reads (h1 := fun _ => rfl) (hA17 _ (Kd.reads_of_C HR0.out))); have HC166 := Aside0.mk hC17; clear hA17 hC17 hi017 hsz17) | ((with_reducible refine look_callee (f := 26) rfl ?_); refine goesL_ (some 36) rfl rfl Tryz.func26 (by kernel_rfl) rfl #[.slice A0 (l0.take (t165 : Int).toNat).length c0, .int .i64 a1] rfl (by (try simp only [List.map_toArray, List.map_cons, List.map_nil]); first | done | (rw [show (l0.take (t165 : Int).toNat).length = t165.toNat from (by rw [List.length_take]; have h_ : (t165 : Int) ≤ (l0.length : Int) := of_decide_eq_true (by first | (with_reducible assumption) | assumption); omega)] <;> rfl) | rfl | (simp only [List.length_drop, List.length_take]; rfl)) ?_; (with_reducible refine (ih kj3 (by have := HJ3.out; omega) _ _ (l0.take (t165 : Int).toNat) a1 t167 t168 _ ?side1 ?side2 A12.out).mono ?_); (case side1 => repeat (first | exact (Kd.C_below HR166.out (by repeat (first | (with_reducible first | exact HB.out | apply below_alloc | apply pw_below_drewN | apply below_drew1) | exact HB.out))) | (with_reducible refine Kd.C_alloc ?_ _) | (with_reducible refine Kd.C_drewN ?_ _) | (with_reducible refine Kd.C_drew ?_))); (case side2 => exact HC166.out); rintro e w18 ⟨v169, rfl, ho0, hb⟩; refine ⟨_, rfl, ?_⟩; have n0_ := Aside0.mk (Kd.R_lower ho0 (below_size (by repeat (first | (with_reducible first | exact HB.out | apply below_alloc | apply pw_below_drewN | apply below_drew1) | exact HB.out)))); have n1_ := Aside0.mk (below_step (by repeat (first | (with_reducible first | exact HB.out | apply below_alloc | apply pw_below_drewN | apply below_drew1) | exact HB.out)) hb); clear HB; have HO170 := n0_; have HB := n1_; clear n0_ n1_; (try clear hb); (try clear hb2); (try clear hk); (try clear hi); (try clear ho0); obtain ⟨i019, hi019, _, hsz19, _⟩ := info_parts info9; obtain ⟨A19, hcut19, hA19, hC19⟩ := print_drop_of (P := Tryz.prog) Value.string (⟨#[]⟩ : ByteArray) 45 9 .i64 Tryz.underlying45 hi019 hsz19 A0 c0 l0 t165 (of_decide_eq_true (by first | (with_reducible assumption) | assumption)) (of_decide_eq_true (by first | (with_reducible assumption) | assumption)) HC0.out; have HR171 := Aside0.mk (Kd.C_of_reads (h1 := fun _ => rfl) (hA19 _ (Kd.reads_of_C HR0.out))); have HC171 := Aside0.mk hC19; clear hA19 hC19 hi019 hsz19) | ((with_reducible refine look_callee (f := 22) rfl ?_); refine goesL_ (some 43) rfl rfl Tryz.func22 (by kernel_rfl) rfl #[.slice A19 (l0.drop (t165 : Int).toNat).length (c0 - t165.toNat)] rfl (by (try simp only [List.map_toArray, List.map_cons, List.map_nil]); first | done | (rw [show (l0.drop (t165 : Int).toNat).length = (l0.length - t165.toNat) from List.length_drop] <;> rfl) | rfl | (simp only [List.length_drop, List.length_take]; rfl)) ?_; (with_reducible refine (cartoucheref03_Crown.calls _ _ (l0.drop (t165 : Int).toNat) t172 _ ?side1 ?side2 A15.out).mono ?_); (case side1 => repeat (first | exact (Kd.C_below HR171.out HB.out) | (with_reducible refine Kd.C_alloc ?_ _) | (with_reducible refine Kd.C_drewN ?_ _) | (with_reducible refine Kd.C_drew ?_))); (case side2 => exact HC171.out); rintro e w20 ⟨rfl, hb⟩; refine ⟨_, rfl, ?_⟩; have n0_ := Aside0.mk (Kd.R_below (by (with_reducible repeat (first | apply Kd.R_alloc | apply Kd.R_drewN | apply Kd.R_drew)); exact HO170.out) hb); have n1_ := Aside0.mk (below_step (by repeat (first | (with_reducible first | exact HB.out | apply below_alloc | apply pw_below_drewN | apply below_drew1) | exact HB.out)) hb); clear HO170; clear HB; have HO170 := n0_; have HB := n1_; clear n0_ n1_; (try clear hb); (try clear hb2); (try clear hk); (try clear hi)) | ((with_reducible refine look_builtin (b := .append) (xs := #[.tmp 39, .tmp 44]) rfl ?_); (try (refine gate_guard (by rfl) ?_; dsimp only)); at_builtin; refine Kd.R_append Kd.string (w0 := w) w.heap.size rfl (.tmp 39) (.tmp 44) 45 9 (.string ⟨#[]⟩) 16 rfl Tryz.underlying45 info9 rfl (by decide) (by omega) v169 t167 t172 [.string t172] (fun _ => True) (fun _ => False) rfl rfl ?aP (fun _ hk => hk.elim) ?aF ?aO ?aB ?aS ?aL ?_; (case aP => exact rfl); (case aB => exact (by repeat (first | (with_reducible first | exact HB.out | apply below_alloc | apply pw_below_drewN | apply below_drew1) | exact HB.out))); (case aF => exact (fun _ _ => trivial)); (case aO => exact (by (with_reducible repeat (first | apply Kd.R_alloc | apply Kd.R_drewN | apply Kd.R_drew)); exact HO170.out)); (case aS => exact (below_size (by repeat (first | (with_reducible first | exact HB.out | apply below_alloc | apply pw_below_drewN | apply below_drew1) | exact HB.out)))); (case aL => have := LMc16.out; omega); intro v174 w21 ho hb hg hat; rw [← Ny173.out] at ho; have n0_ := Aside0.mk (hb); have n1_ := Aside0.mk (ho); clear HB; clear HO170; have HB := n0_; have HO175 := n1_; clear n0_ n1_; clear ho hb hg hat))
                   go_ret2
                   exact ⟨_, by first | rfl | (simp [errW_none, errW_some] <;> rfl) | (simp [*, errW_none, errW_some] <;> rfl), by (with_reducible repeat (first | apply Kd.R_alloc | apply Kd.R_drewN | apply Kd.R_drew)); exact HO175.out, by repeat (first | (with_reducible first | exact HB.out | apply below_alloc | apply pw_below_drewN | apply below_drew1) | exact HB.out)⟩
                 · rw [if_neg c16] at H
                   exact absurd H (by simp)
               · rw [if_neg c11] at H
                 exact absurd H (by simp)
             · rw [if_neg c10] at H
               exact absurd H (by simp)
           · rw [if_neg c9] at H
             have c9b0 : decide (a1 < t165) = false := decide_eq_false c9
             clear c9
             by_cases c22 : 0 ≤ t165
             · rw [if_pos c22] at H
               have c22b0 := eq_true c22
               have c22b1 : decide (0 ≤ t165) = true := decide_eq_true c22
               clear c22
               by_cases c23 : t165 ≤ (l0.length : Int)
               · rw [if_pos c23] at H
                 have c23b0 := eq_true c23
                 have c23b1 : decide (t165 ≤ (l0.length : Int)) = true := decide_eq_true c23
                 clear c23
                 replace H := Option.bind_eq_some_iff.mp H
                 obtain ⟨⟨t177, t178⟩, A240, H⟩ := H
                 try dsimp only [-dreduceIte] at H
                 have A24 := Aside0.mk A240
                 clear A240
                 have c25b0 := eq_true (of_decide_eq_true (by first | (with_reducible assumption) | assumption) : 0 ≤ t165)
                 have c26b0 := eq_true (of_decide_eq_true (by first | (with_reducible assumption) | assumption) : t165 ≤ (l0.length : Int))
                 replace H := Option.bind_eq_some_iff.mp H
                 obtain ⟨t182, A270, H⟩ := H
                 try dsimp only [-dreduceIte] at H
                 have A27 := Aside0.mk A270
                 clear A270
                 by_cases c28 : t177.length < 8796093022208
                 · rw [if_pos c28] at H
                   have LMc28 := Aside0.mk c28
                   clear c28
                   obtain ⟨y183, hy183⟩ : ∃ y_ : List ByteArray, y_ = (t177 ++ [t182]) := ⟨_, rfl⟩
                   replace H : (some (y183, 0)) = some (r1, r2) := by first | (rw [hy183]; with_reducible exact H) | (have H2_ := (Option.bind_some _ _).symm.trans H; rw [hy183]; with_reducible exact H2_) | (have H2_ := (Option.bind_some _ _).symm.trans H; with_reducible exact H2_) | with_reducible exact H | (rw [hy183]; exact H) | exact H
                   have Ny183 := Aside0.mk hy183
                   clear hy183
                   simp only [Option.some.injEq, Prod.mk.injEq] at H
                   obtain ⟨rfl, rfl⟩ := H
                   go_wp2_with (first | ((with_reducible refine look_callee (f := 55) rfl ?_); refine goesL_ (some 27) rfl rfl Tryz.func55 (by kernel_rfl) rfl #[.int .i64 (l0.length : Int)] rfl (by (try simp only [List.map_toArray, List.map_cons, List.map_nil]); first | done | rfl | (simp only [List.length_drop, List.length_take]; rfl)) ?_; (with_reducible refine (cartoucheref03_half.calls kj3 (l0.length : Int) t165 _ A8.out).mono ?_); rintro e w' ⟨rfl, ⟨nd, rfl⟩⟩; refine ⟨_, rfl, ?_⟩; obtain ⟨i029, hi029, _, hsz29, _⟩ := info_parts info9; obtain ⟨A29, hcut29, hA29, hC29⟩ := print_drop_of (P := Tryz.prog) Value.string (⟨#[]⟩ : ByteArray) 45 9 .i64 Tryz.underlying45 hi029 hsz29 A0 c0 l0 t165 (of_decide_eq_true (by first | (with_reducible assumption) | assumption)) (of_decide_eq_true (by first | (with_reducible assumption) | assumption)) HC0.out; have HR176 := Aside0.mk (Kd.C_of_reads (h1 := fun _ => rfl) (hA29 _ (Kd.reads_of_C HR0.out))); have HC176 := Aside0.mk hC29; clear hA29 hC29 hi029 hsz29) | ((with_reducible refine look_callee (f := 26) rfl ?_); refine goesL_ (some 53) rfl rfl Tryz.func26 (by kernel_rfl) rfl #[.slice A29 (l0.drop (t165 : Int).toNat).length (c0 - t165.toNat), .int .i64 (wrap64 (a1 - t165))] rfl (by (try simp only [List.map_toArray, List.map_cons, List.map_nil]); first | done | (rw [show (l0.drop (t165 : Int).toNat).length = (l0.length - t165.toNat) from List.length_drop] <;> rfl) | rfl | (simp only [List.length_drop, List.length_take]; rfl)) ?_; (with_reducible refine (ih kj3 (by have := HJ3.out; omega) _ _ (l0.drop (t165 : Int).toNat) (wrap64 (a1 - t165)) t177 t178 _ ?side1 ?side2 A24.out).mono ?_); (case side1 => repeat (first | exact (Kd.C_below HR176.out (by repeat (first | (with_reducible first | exact HB.out | apply below_alloc | apply pw_below_drewN | apply below_drew1) | exact HB.out))) | (with_reducible refine Kd.C_alloc ?_ _) | (with_reducible refine Kd.C_drewN ?_ _) | (with_reducible refine Kd.C_drew ?_))); (case side2 => exact HC176.out); rintro e w30 ⟨v179, rfl, ho0, hb⟩; refine ⟨_, rfl, ?_⟩; have n0_ := Aside0.mk (Kd.R_lower ho0 (below_size (by repeat (first | (with_reducible first | exact HB.out | apply below_alloc | apply pw_below_drewN | apply below_drew1) | exact HB.out)))); have n1_ := Aside0.mk (below_step (by repeat (first | (with_reducible first | exact HB.out | apply below_alloc | apply pw_below_drewN | apply below_drew1) | exact HB.out)) hb); clear HB; have HO180 := n0_; have HB := n1_; clear n0_ n1_; (try clear hb); (try clear hb2); (try clear hk); (try clear hi); (try clear ho0); obtain ⟨i031, hi031, _, hsz31, _⟩ := info_parts info9; obtain ⟨hcut31, hA31, hC31⟩ := print_take_of (P := Tryz.prog) Value.string (⟨#[]⟩ : ByteArray) 45 9 .i64 Tryz.underlying45 hi031 hsz31 A0 c0 l0 t165 (of_decide_eq_true (by first | (with_reducible assumption) | assumption)) (of_decide_eq_true (by first | (with_reducible assumption) | assumption)) HC0.out; have HR181 := Aside0.mk (Kd.C_of_reads (h1 := fun _ => rfl) (hA31 _ (Kd.reads_of_C HR0.out))); have HC181 := Aside0.mk hC31; clear hA31 hC31 hi031 hsz31) | ((with_reducible refine look_callee (f := 22) rfl ?_); refine goesL_ (some 60) rfl rfl Tryz.func22 (by kernel_rfl) rfl #[.slice A0 (l0.take (t165 : Int).toNat).length c0] rfl (by (try simp only [List.map_toArray, List.map_cons, List.map_nil]); first | done | (rw [show (l0.take (t165 : Int).toNat).length = t165.toNat from (by rw [List.length_take]; have h_ : (t165 : Int) ≤ (l0.length : Int) := of_decide_eq_true (by first | (with_reducible assumption) | assumption); omega)] <;> rfl) | rfl | (simp only [List.length_drop, List.length_take]; rfl)) ?_; (with_reducible refine (cartoucheref03_Crown.calls _ _ (l0.take (t165 : Int).toNat) t182 _ ?side1 ?side2 A27.out).mono ?_); (case side1 => repeat (first | exact (Kd.C_below HR181.out HB.out) | (with_reducible refine Kd.C_alloc ?_ _) | (with_reducible refine Kd.C_drewN ?_ _) | (with_reducible refine Kd.C_drew ?_))); (case side2 => exact HC181.out); rintro e w32 ⟨rfl, hb⟩; refine ⟨_, rfl, ?_⟩; have n0_ := Aside0.mk (Kd.R_below (by (with_reducible repeat (first | apply Kd.R_alloc | apply Kd.R_drewN | apply Kd.R_drew)); exact HO180.out) hb); have n1_ := Aside0.mk (below_step (by repeat (first | (with_reducible first | exact HB.out | apply below_alloc | apply pw_below_drewN | apply below_drew1) | exact HB.out)) hb); clear HO180; clear HB; have HO180 := n0_; have HB := n1_; clear n0_ n1_; (try clear hb); (try clear hb2); (try clear hk); (try clear hi)) | ((with_reducible refine look_builtin (b := .append) (xs := #[.tmp 56, .tmp 61]) rfl ?_); (try (refine gate_guard (by rfl) ?_; dsimp only)); at_builtin; refine Kd.R_append Kd.string (w0 := w) w.heap.size rfl (.tmp 56) (.tmp 61) 45 9 (.string ⟨#[]⟩) 16 rfl Tryz.underlying45 info9 rfl (by decide) (by omega) v179 t177 t182 [.string t182] (fun _ => True) (fun _ => False) rfl rfl ?aP (fun _ hk => hk.elim) ?aF ?aO ?aB ?aS ?aL ?_; (case aP => exact rfl); (case aB => exact (by repeat (first | (with_reducible first | exact HB.out | apply below_alloc | apply pw_below_drewN | apply below_drew1) | exact HB.out))); (case aF => exact (fun _ _ => trivial)); (case aO => exact (by (with_reducible repeat (first | apply Kd.R_alloc | apply Kd.R_drewN | apply Kd.R_drew)); exact HO180.out)); (case aS => exact (below_size (by repeat (first | (with_reducible first | exact HB.out | apply below_alloc | apply pw_below_drewN | apply below_drew1) | exact HB.out)))); (case aL => have := LMc28.out; omega); intro v184 w33 ho hb hg hat; rw [← Ny183.out] at ho; have n0_ := Aside0.mk (hb); have n1_ := Aside0.mk (ho); clear HB; clear HO180; have HB := n0_; have HO185 := n1_; clear n0_ n1_; clear ho hb hg hat))
                   go_ret2
                   exact ⟨_, by first | rfl | (simp [errW_none, errW_some] <;> rfl) | (simp [*, errW_none, errW_some] <;> rfl), by (with_reducible repeat (first | apply Kd.R_alloc | apply Kd.R_drewN | apply Kd.R_drew)); exact HO185.out, by repeat (first | (with_reducible first | exact HB.out | apply below_alloc | apply pw_below_drewN | apply below_drew1) | exact HB.out)⟩
                 · rw [if_neg c28] at H
                   exact absurd H (by simp)
               · rw [if_neg c23] at H
                 exact absurd H (by simp)
             · rw [if_neg c22] at H
               exact absurd H (by simp)
end Go.Proofs.YtjlpjpjodhkpdaaGreatDoor.Q
