/- cartoucheref02.mix: it makes mixL. -/
import Derived.Test.YtocfaglcaefnoaaDoorBlockWords
import Derived.Test.YtocfaglcaefnoaaDoorMix
import Derived.StillTailTactics
set_option linter.unusedVariables false
set_option linter.unusedSimpArgs false
namespace Go.Proofs.YtocfaglcaefnoaaDoor
open Go.RowKit

def sAdd (p q : Nat) (x : Int) (v : List Int) : List Int := v.set p (hA (v.getD p 0) (v.getD q 0) x)
def sXor (R : Int → Int) (s p : Nat) (v : List Int) : List Int := v.set s (R (xr (v.getD s 0) (v.getD p 0)))
def sSum (r s : Nat) (v : List Int) : List Int := v.set r ((v.getD r 0 + v.getD s 0) % 4294967296)
theorem sAdd_length (p q : Nat) (x : Int) (v : List Int) : (sAdd p q x v).length = v.length := by simp [sAdd]
theorem sXor_length (R : Int → Int) (s p : Nat) (v : List Int) : (sXor R s p v).length = v.length := by simp [sXor]
theorem sSum_length (r s : Nat) (v : List Int) : (sSum r s v).length = v.length := by simp [sSum]
def rmixL (p q r s : Nat) (x y : Int) (v : List Int) : List Int :=
  sXor r7 q r (sSum r s (sXor r8 s p (sAdd p q y (sXor r12 q r (sSum r s (sXor r16 s p (sAdd p q x v)))))))
theorem getD_same (v : List Int) (i : Nat) (a : Int) (h : i < v.length) : (v.set i a).getD i 0 = a := by
  rw [List.getD_eq_getElem?_getD, List.getElem?_set_self h]; rfl
theorem getD_other (v : List Int) (i j : Nat) (a : Int) (h : i ≠ j) : (v.set i a).getD j 0 = v.getD j 0 := by
  rw [List.getD_eq_getElem?_getD, List.getD_eq_getElem?_getD, List.getElem?_set_ne h]
theorem rmixL_eq (p q r s : Nat) (x y : Int) (v : List Int) (hv : v.length = 16) (h0 : p < 16) (h1 : q < 16) (h2 : r < 16) (h3 : s < 16) (hpq : p ≠ q) (hpr : p ≠ r) (hps : p ≠ s) (hqr : q ≠ r) (hqs : q ≠ s) (hrs : r ≠ s) :
    rmixL p q r s x y v = mixL p q r s x y v := by
  generalize ha : v.getD p 0 = a
  generalize hb : v.getD q 0 = b
  generalize hc : v.getD r 0 = c
  generalize hd : v.getD s 0 = d
  obtain ⟨a1, e1⟩ : ∃ z, z = hA a b x := ⟨_, rfl⟩
  obtain ⟨d1, e2⟩ : ∃ z, z = hD r16 a b d x := ⟨_, rfl⟩
  obtain ⟨c1, e3⟩ : ∃ z, z = hC r16 a b c d x := ⟨_, rfl⟩
  obtain ⟨b1, e4⟩ : ∃ z, z = hB r16 r12 a b c d x := ⟨_, rfl⟩
  obtain ⟨a2, e5⟩ : ∃ z, z = hA a1 b1 y := ⟨_, rfl⟩
  obtain ⟨d2, e6⟩ : ∃ z, z = hD r8 a1 b1 d1 y := ⟨_, rfl⟩
  obtain ⟨c2, e7⟩ : ∃ z, z = hC r8 a1 b1 c1 d1 y := ⟨_, rfl⟩
  obtain ⟨b2, e8⟩ : ∃ z, z = hB r8 r7 a1 b1 c1 d1 y := ⟨_, rfl⟩
  have q1 : sAdd p q x v = v.set p a1 := by unfold sAdd; rw [ha, hb, e1]
  have q2 : sXor r16 s p (v.set p a1) = (v.set p a1).set s d1 := by
    unfold sXor
    rw [getD_other _ _ _ _ hps, getD_same _ _ _ (by omega), hd, e2, e1]; rfl
  have q3 : sSum r s ((v.set p a1).set s d1) = ((v.set p a1).set s d1).set r c1 := by
    unfold sSum
    rw [getD_other _ _ _ _ (Ne.symm hrs), getD_same _ _ _ (by simp; omega), getD_other _ _ _ _ hpr, hc, e3, e2]; rfl
  have q4 : sXor r12 q r (((v.set p a1).set s d1).set r c1) = (((v.set p a1).set s d1).set r c1).set q b1 := by
    unfold sXor
    rw [getD_other _ _ _ _ (Ne.symm hqr), getD_same _ _ _ (by simp; omega), getD_other _ _ _ _ (Ne.symm hqs), getD_other _ _ _ _ hpq, hb, e4, e3]; rfl
  have q5 : sAdd p q y ((((v.set p a1).set s d1).set r c1).set q b1) = ((((v.set p a1).set s d1).set r c1).set q b1).set p a2 := by
    unfold sAdd
    rw [getD_other _ _ _ _ (Ne.symm hpq), getD_same _ _ _ (by simp; omega), getD_other _ _ _ _ (Ne.symm hpr), getD_other _ _ _ _ (Ne.symm hps), getD_same _ _ _ (by omega), e5]
  have q6 : sXor r8 s p (((((v.set p a1).set s d1).set r c1).set q b1).set p a2) = (((((v.set p a1).set s d1).set r c1).set q b1).set p a2).set s d2 := by
    unfold sXor
    rw [getD_other _ _ _ _ hps, getD_same _ _ _ (by simp; omega), getD_other _ _ _ _ hqs, getD_other _ _ _ _ hrs, getD_same _ _ _ (by simp; omega), e6, e5]; rfl
  have q7 : sSum r s ((((((v.set p a1).set s d1).set r c1).set q b1).set p a2).set s d2) = ((((((v.set p a1).set s d1).set r c1).set q b1).set p a2).set s d2).set r c2 := by
    unfold sSum
    rw [getD_other _ _ _ _ (Ne.symm hrs), getD_same _ _ _ (by simp; omega), getD_other _ _ _ _ hpr, getD_other _ _ _ _ hqr, getD_same _ _ _ (by simp; omega), e7, e6]; rfl
  have q8 : sXor r7 q r (((((((v.set p a1).set s d1).set r c1).set q b1).set p a2).set s d2).set r c2) = (((((((v.set p a1).set s d1).set r c1).set q b1).set p a2).set s d2).set r c2).set q b2 := by
    unfold sXor
    rw [getD_other _ _ _ _ (Ne.symm hqr), getD_same _ _ _ (by simp; omega), getD_other _ _ _ _ (Ne.symm hqs), getD_other _ _ _ _ hpq, getD_same _ _ _ (by simp; omega), e8, e7]; rfl
  unfold rmixL
  rw [q1, q2, q3, q4, q5, q6, q7, q8]
  unfold mixL
  simp only [ha, hb, hc, hd, ← e1, ← e2, ← e3, ← e4, ← e5, ← e6, ← e7, ← e8]
  apply List.ext_getElem?
  intro i
  by_cases ip : p = i
  · subst ip
    simp [List.getElem?_set, hv, h0, Ne.symm hpq, Ne.symm hpr, Ne.symm hps]
  by_cases iq : q = i
  · subst iq
    simp [List.getElem?_set, hv, h1, hpq, Ne.symm hqr, Ne.symm hqs]
  by_cases ir : r = i
  · subst ir
    simp [List.getElem?_set, hv, h2, hpr, hqr, Ne.symm hrs]
  by_cases is : s = i
  · subst is
    simp [List.getElem?_set, hv, h3, hps, hqs, hrs]
  simp [List.getElem?_set, ip, iq, ir, is]

/-- mix's two blocks. -/
def RS (w : World) (l : List Int) (u : World) : Prop :=
  RowIs u w.heap.size 50 (u32s l) ∧ RowIs u (w.heap.size + 1) 50 (u32s (List.replicate 16 0)) ∧ Below w.heap.size w u
theorem RS.drew {w u : World} {l : List Int} (b : RS w l u) : RS w l u.drew := ⟨b.1, b.2.1, b.2.2.drew⟩
theorem RS.set {w u : World} {l : List Int} (b : RS w l u) (i : Nat) (x : Int) : RS w (l.set i x) (u.setCell ⟨w.heap.size, i, none⟩ (.int .u32 x)) := by
  obtain ⟨q0, q1, q2⟩ := b
  have e := q0.set i (.int .u32 x)
  rw [u32s_set] at e
  exact ⟨e, q1.other (by show _ ≠ w.heap.size; omega) _, q2.setCell (Nat.le_refl _) _⟩
theorem RS.at {w u : World} {l : List Int} (b : RS w l u) (i : Nat) (hi : i < l.length) : u.cell? ⟨w.heap.size, i, none⟩ = some (.int .u32 (l.getD i 0)) := b.1.cell (u32s_get l i hi)
/-- Ahead of a store, and behind it. -/
def two (a b : List Int) : Nat → List Int
  | 0 => a
  | _ + 1 => b

set_option maxHeartbeats 2000000 in
theorem rmix_any (p q r s : Nat) (h0 : p < 16) (h1 : q < 16) (h2 : r < 16) (h3 : s < 16) (hpq : p ≠ q) (hpr : p ≠ r) (hps : p ≠ s) (hqr : q ≠ r) (hqs : q ≠ s) (hrs : r ≠ s) (v : List Int) (hv : v.length = 16) (x y : Int) (w : World) :
    Calls Tryd.prog 27 #[.agg (u32s v).toArray, .int .i64 p, .int .i64 q, .int .i64 r, .int .i64 s, .int .u32 x, .int .u32 y] w fun e w' =>
      e = .returned (.agg (u32s (mixL p q r s x y v)).toArray) ∧ Below w.heap.size w w' := by
  have hend := rmixL_eq p q r s x y v hv h0 h1 h2 h3 hpq hpr hps hqr hqs hrs
  unfold rmixL at hend
  have i0 : (p : Int) < 16 := by omega
  have i1 : (q : Int) < 16 := by omega
  have i2 : (r : Int) < 16 := by omega
  have i3 : (s : Int) < 16 := by omega
  have HE := Lib.hid hend; have HV := Lib.hid hv
  clear hend hv hpq hpr hps hqr hqs hrs
  go_enter Tryd.func27, Tryd.ntmps27
  go_wp2_with fail
  have hS : RS w v ((w.alloc (.cells (u32s v).toArray 50)).alloc (.cells (u32s (List.replicate 16 0)).toArray 50)) := by
    refine ⟨(RowIs.new _ _ _).alloc _, ?_, ((Below.refl _ _).alloc (Nat.le_refl _) _).alloc (by simp) _⟩
    have := RowIs.new (w.alloc (.cells (u32s v).toArray 50)) 50 (u32s (List.replicate 16 0))
    rw [World.size_alloc] at this; exact this
  have e1 : (u32s (List.replicate 16 0)).toArray = #[.int .u32 0, .int .u32 0, .int .u32 0, .int .u32 0, .int .u32 0, .int .u32 0, .int .u32 0, .int .u32 0, .int .u32 0, .int .u32 0, .int .u32 0, .int .u32 0, .int .u32 0, .int .u32 0, .int .u32 0, .int .u32 0] := rfl
  rw [e1] at hS
  clear e1
  generalize World.alloc _ _ = W at *
  obtain ⟨v1, hv1⟩ : ∃ l, l = sAdd p q x v := ⟨_, rfl⟩
  have HX1 : Hid (v.set p (hA (v.getD p 0) (v.getD q 0) x) = v1) := Lib.hid hv1.symm
  have HV1 : Hid (v1.length = 16) := Lib.hid (by rw [hv1, sAdd_length, HV.out])
  rw [← hv1] at HE
  clear hv1
  refine Fam.wp_region_fam [11] (fun m u => RS w (two v v1 m) u) (by kernel_rfl) (by kernel_rfl) hS.drew ?_
  refine Fam.pure_ (by rfl) (by rfl) rfl (fun K hK => ?_)
  go_big_quiet_op
  refine hK _ ?_
  clear hK K
  refine Fam.pure_ (by rfl) (by rfl) rfl (fun K hK => ?_)
  go_big_quiet_op
  refine hK _ ?_
  clear hK K
  refine Fam.pure_ (by rfl) (by rfl) rfl (fun K hK => ?_)
  go_big_quiet_op
  refine hK _ ?_
  clear hK K
  refine Fam.read_ ?_ (by rfl) (by rfl) (fun m' _ u hu => ?_) ?_
  rotate_left
  · obtain rfl : m' = 0 := by have := Fam.inR_le ‹_› 0 (by decide) (by kernel_rfl); omega
    have hu' : RS w v u := hu
    have c0 := hu'.at p (by rw [HV.out]; omega)
    clear hu'; clear hu; go_simp; rfl
  simp only [Act.put, List.setIfInBounds_toArray, List.set_cons_zero, List.set_cons_succ]
  refine Fam.pure_ (by rfl) (by rfl) rfl (fun K hK => ?_)
  go_big_quiet_op
  refine hK _ ?_
  clear hK K
  refine Fam.pure_ (by rfl) (by rfl) rfl (fun K hK => ?_)
  go_big_quiet_op
  refine hK _ ?_
  clear hK K
  refine Fam.read_ ?_ (by rfl) (by rfl) (fun m' _ u hu => ?_) ?_
  rotate_left
  · obtain rfl : m' = 0 := by have := Fam.inR_le ‹_› 0 (by decide) (by kernel_rfl); omega
    have hu' : RS w v u := hu
    have c0 := hu'.at q (by rw [HV.out]; omega)
    clear hu'; clear hu; go_simp; rfl
  simp only [Act.put, List.setIfInBounds_toArray, List.set_cons_zero, List.set_cons_succ]
  refine Fam.pure_ (by rfl) (by rfl) rfl (fun K hK => ?_)
  go_big_quiet_op
  refine hK _ ?_
  clear hK K
  refine Fam.pure_ (by rfl) (by rfl) rfl (fun K hK => ?_)
  go_big_quiet_op
  refine hK _ ?_
  clear hK K
  refine Fam.pure_ (by rfl) (by rfl) rfl (fun K hK => ?_)
  go_big_quiet_op
  refine hK _ ?_
  clear hK K
  refine Fam.pure_ (by rfl) (by rfl) rfl (fun K hK => ?_)
  go_big_quiet_op
  refine hK _ ?_
  clear hK K
  refine Fam.store_ (by rfl) (by rfl) (fun u hu => ?_) ?_
  · have hu' : RS w v u := hu
    have c0 := hu'.at p (by rw [HV.out]; omega)
    have f0 := hu'.1.frozen p
    have g0 := hu'.set p (hA (v.getD p 0) (v.getD q 0) x)
    rw [HX1.out] at g0
    refine ⟨_, ?_, g0⟩
    clear g0 hu hu'
    unfold hA
    go_simp
    rw [Int.add_assoc]
  try simp only [Act.put, List.setIfInBounds_toArray, List.set_cons_zero, List.set_cons_succ]
  refine Fam.nil_ ?_
  rintro U1 hS
  replace hS : RS w v1 U1 := hS
  go_wp2_with fail
  obtain ⟨v2, hv2⟩ : ∃ l, l = sXor r16 s p v1 := ⟨_, rfl⟩
  have HX2 : Hid (v1.set s (r16 (xr (v1.getD s 0) (v1.getD p 0))) = v2) := Lib.hid hv2.symm
  have HV2 : Hid (v2.length = 16) := Lib.hid (by rw [hv2, sXor_length, HV1.out])
  rw [← hv2] at HE
  clear hv2
  refine Fam.wp_region_fam [10] (fun m u => RS w (two v1 v2 m) u) (by kernel_rfl) (by kernel_rfl) hS.drew ?_
  refine Fam.pure_ (by rfl) (by rfl) rfl (fun K hK => ?_)
  go_big_quiet_op
  refine hK _ ?_
  clear hK K
  refine Fam.pure_ (by rfl) (by rfl) rfl (fun K hK => ?_)
  go_big_quiet_op
  refine hK _ ?_
  clear hK K
  refine Fam.pure_ (by rfl) (by rfl) rfl (fun K hK => ?_)
  go_big_quiet_op
  refine hK _ ?_
  clear hK K
  refine Fam.read_ ?_ (by rfl) (by rfl) (fun m' _ u hu => ?_) ?_
  rotate_left
  · obtain rfl : m' = 0 := by have := Fam.inR_le ‹_› 0 (by decide) (by kernel_rfl); omega
    have hu' : RS w v1 u := hu
    have c0 := hu'.at s (by rw [HV1.out]; omega)
    clear hu'; clear hu; go_simp; rfl
  simp only [Act.put, List.setIfInBounds_toArray, List.set_cons_zero, List.set_cons_succ]
  refine Fam.pure_ (by rfl) (by rfl) rfl (fun K hK => ?_)
  go_big_quiet_op
  refine hK _ ?_
  clear hK K
  refine Fam.pure_ (by rfl) (by rfl) rfl (fun K hK => ?_)
  go_big_quiet_op
  refine hK _ ?_
  clear hK K
  refine Fam.read_ ?_ (by rfl) (by rfl) (fun m' _ u hu => ?_) ?_
  rotate_left
  · obtain rfl : m' = 0 := by have := Fam.inR_le ‹_› 0 (by decide) (by kernel_rfl); omega
    have hu' : RS w v1 u := hu
    have c0 := hu'.at p (by rw [HV1.out]; omega)
    clear hu'; clear hu; go_simp; rfl
  simp only [Act.put, List.setIfInBounds_toArray, List.set_cons_zero, List.set_cons_succ]
  refine Fam.pure_ (by rfl) (by rfl) rfl (fun K hK => ?_)
  go_big_quiet_op
  refine hK _ ?_
  clear hK K
  refine Fam.call_ (.int .u32 (r16 (xr (v1.getD s 0) (v1.getD p 0)))) 35 ?_ (by rfl) (by rfl) (fun w => ?_) (fun m' _ u hu => ?_) ?_
  rotate_left
  · go_simp; rfl
  · exact (turn16 _ u).mono fun e u' ⟨he, hw⟩ => ⟨he, hw ▸ hu⟩
  simp only [Act.put, List.setIfInBounds_toArray, List.set_cons_zero, List.set_cons_succ]
  refine Fam.pure_ (by rfl) (by rfl) rfl (fun K hK => ?_)
  go_big_quiet_op
  refine hK _ ?_
  clear hK K
  refine Fam.store_ (by rfl) (by rfl) (fun u hu => ?_) ?_
  · have hu' : RS w v1 u := hu
    have c0 := hu'.at s (by rw [HV1.out]; omega)
    have f0 := hu'.1.frozen s
    have g0 := hu'.set s (r16 (xr (v1.getD s 0) (v1.getD p 0)))
    rw [HX2.out] at g0
    refine ⟨_, ?_, g0⟩
    clear g0 hu hu'
    unfold xr
    go_simp
  try simp only [Act.put, List.setIfInBounds_toArray, List.set_cons_zero, List.set_cons_succ]
  refine Fam.nil_ ?_
  rintro U2 hS
  replace hS : RS w v2 U2 := hS
  go_wp2_with fail
  obtain ⟨v3, hv3⟩ : ∃ l, l = sSum r s v2 := ⟨_, rfl⟩
  have HX3 : Hid (v2.set r ((v2.getD r 0 + v2.getD s 0) % 4294967296) = v3) := Lib.hid hv3.symm
  have HV3 : Hid (v3.length = 16) := Lib.hid (by rw [hv3, sSum_length, HV2.out])
  rw [← hv3] at HE
  clear hv3
  refine Fam.wp_region_fam [9] (fun m u => RS w (two v2 v3 m) u) (by kernel_rfl) (by kernel_rfl) hS.drew ?_
  refine Fam.pure_ (by rfl) (by rfl) rfl (fun K hK => ?_)
  go_big_quiet_op
  refine hK _ ?_
  clear hK K
  refine Fam.pure_ (by rfl) (by rfl) rfl (fun K hK => ?_)
  go_big_quiet_op
  refine hK _ ?_
  clear hK K
  refine Fam.pure_ (by rfl) (by rfl) rfl (fun K hK => ?_)
  go_big_quiet_op
  refine hK _ ?_
  clear hK K
  refine Fam.read_ ?_ (by rfl) (by rfl) (fun m' _ u hu => ?_) ?_
  rotate_left
  · obtain rfl : m' = 0 := by have := Fam.inR_le ‹_› 0 (by decide) (by kernel_rfl); omega
    have hu' : RS w v2 u := hu
    have c0 := hu'.at r (by rw [HV2.out]; omega)
    clear hu'; clear hu; go_simp; rfl
  simp only [Act.put, List.setIfInBounds_toArray, List.set_cons_zero, List.set_cons_succ]
  refine Fam.pure_ (by rfl) (by rfl) rfl (fun K hK => ?_)
  go_big_quiet_op
  refine hK _ ?_
  clear hK K
  refine Fam.pure_ (by rfl) (by rfl) rfl (fun K hK => ?_)
  go_big_quiet_op
  refine hK _ ?_
  clear hK K
  refine Fam.read_ ?_ (by rfl) (by rfl) (fun m' _ u hu => ?_) ?_
  rotate_left
  · obtain rfl : m' = 0 := by have := Fam.inR_le ‹_› 0 (by decide) (by kernel_rfl); omega
    have hu' : RS w v2 u := hu
    have c0 := hu'.at s (by rw [HV2.out]; omega)
    clear hu'; clear hu; go_simp; rfl
  simp only [Act.put, List.setIfInBounds_toArray, List.set_cons_zero, List.set_cons_succ]
  refine Fam.pure_ (by rfl) (by rfl) rfl (fun K hK => ?_)
  go_big_quiet_op
  refine hK _ ?_
  clear hK K
  refine Fam.pure_ (by rfl) (by rfl) rfl (fun K hK => ?_)
  go_big_quiet_op
  refine hK _ ?_
  clear hK K
  refine Fam.store_ (by rfl) (by rfl) (fun u hu => ?_) ?_
  · have hu' : RS w v2 u := hu
    have c0 := hu'.at r (by rw [HV2.out]; omega)
    have f0 := hu'.1.frozen r
    have g0 := hu'.set r ((v2.getD r 0 + v2.getD s 0) % 4294967296)
    rw [HX3.out] at g0
    refine ⟨_, ?_, g0⟩
    clear g0 hu hu'
    go_simp
  try simp only [Act.put, List.setIfInBounds_toArray, List.set_cons_zero, List.set_cons_succ]
  refine Fam.nil_ ?_
  rintro U3 hS
  replace hS : RS w v3 U3 := hS
  go_wp2_with fail
  obtain ⟨v4, hv4⟩ : ∃ l, l = sXor r12 q r v3 := ⟨_, rfl⟩
  have HX4 : Hid (v3.set q (r12 (xr (v3.getD q 0) (v3.getD r 0))) = v4) := Lib.hid hv4.symm
  have HV4 : Hid (v4.length = 16) := Lib.hid (by rw [hv4, sXor_length, HV3.out])
  rw [← hv4] at HE
  clear hv4
  refine Fam.wp_region_fam [10] (fun m u => RS w (two v3 v4 m) u) (by kernel_rfl) (by kernel_rfl) hS.drew ?_
  refine Fam.pure_ (by rfl) (by rfl) rfl (fun K hK => ?_)
  go_big_quiet_op
  refine hK _ ?_
  clear hK K
  refine Fam.pure_ (by rfl) (by rfl) rfl (fun K hK => ?_)
  go_big_quiet_op
  refine hK _ ?_
  clear hK K
  refine Fam.pure_ (by rfl) (by rfl) rfl (fun K hK => ?_)
  go_big_quiet_op
  refine hK _ ?_
  clear hK K
  refine Fam.read_ ?_ (by rfl) (by rfl) (fun m' _ u hu => ?_) ?_
  rotate_left
  · obtain rfl : m' = 0 := by have := Fam.inR_le ‹_› 0 (by decide) (by kernel_rfl); omega
    have hu' : RS w v3 u := hu
    have c0 := hu'.at q (by rw [HV3.out]; omega)
    clear hu'; clear hu; go_simp; rfl
  simp only [Act.put, List.setIfInBounds_toArray, List.set_cons_zero, List.set_cons_succ]
  refine Fam.pure_ (by rfl) (by rfl) rfl (fun K hK => ?_)
  go_big_quiet_op
  refine hK _ ?_
  clear hK K
  refine Fam.pure_ (by rfl) (by rfl) rfl (fun K hK => ?_)
  go_big_quiet_op
  refine hK _ ?_
  clear hK K
  refine Fam.read_ ?_ (by rfl) (by rfl) (fun m' _ u hu => ?_) ?_
  rotate_left
  · obtain rfl : m' = 0 := by have := Fam.inR_le ‹_› 0 (by decide) (by kernel_rfl); omega
    have hu' : RS w v3 u := hu
    have c0 := hu'.at r (by rw [HV3.out]; omega)
    clear hu'; clear hu; go_simp; rfl
  simp only [Act.put, List.setIfInBounds_toArray, List.set_cons_zero, List.set_cons_succ]
  refine Fam.pure_ (by rfl) (by rfl) rfl (fun K hK => ?_)
  go_big_quiet_op
  refine hK _ ?_
  clear hK K
  refine Fam.call_ (.int .u32 (r12 (xr (v3.getD q 0) (v3.getD r 0)))) 35 ?_ (by rfl) (by rfl) (fun w => ?_) (fun m' _ u hu => ?_) ?_
  rotate_left
  · go_simp; rfl
  · exact (turn12 _ u).mono fun e u' ⟨he, hw⟩ => ⟨he, hw ▸ hu⟩
  simp only [Act.put, List.setIfInBounds_toArray, List.set_cons_zero, List.set_cons_succ]
  refine Fam.pure_ (by rfl) (by rfl) rfl (fun K hK => ?_)
  go_big_quiet_op
  refine hK _ ?_
  clear hK K
  refine Fam.store_ (by rfl) (by rfl) (fun u hu => ?_) ?_
  · have hu' : RS w v3 u := hu
    have c0 := hu'.at q (by rw [HV3.out]; omega)
    have f0 := hu'.1.frozen q
    have g0 := hu'.set q (r12 (xr (v3.getD q 0) (v3.getD r 0)))
    rw [HX4.out] at g0
    refine ⟨_, ?_, g0⟩
    clear g0 hu hu'
    unfold xr
    go_simp
  try simp only [Act.put, List.setIfInBounds_toArray, List.set_cons_zero, List.set_cons_succ]
  refine Fam.nil_ ?_
  rintro U4 hS
  replace hS : RS w v4 U4 := hS
  go_wp2_with fail
  obtain ⟨v5, hv5⟩ : ∃ l, l = sAdd p q y v4 := ⟨_, rfl⟩
  have HX5 : Hid (v4.set p (hA (v4.getD p 0) (v4.getD q 0) y) = v5) := Lib.hid hv5.symm
  have HV5 : Hid (v5.length = 16) := Lib.hid (by rw [hv5, sAdd_length, HV4.out])
  rw [← hv5] at HE
  clear hv5
  refine Fam.wp_region_fam [11] (fun m u => RS w (two v4 v5 m) u) (by kernel_rfl) (by kernel_rfl) hS.drew ?_
  refine Fam.pure_ (by rfl) (by rfl) rfl (fun K hK => ?_)
  go_big_quiet_op
  refine hK _ ?_
  clear hK K
  refine Fam.pure_ (by rfl) (by rfl) rfl (fun K hK => ?_)
  go_big_quiet_op
  refine hK _ ?_
  clear hK K
  refine Fam.pure_ (by rfl) (by rfl) rfl (fun K hK => ?_)
  go_big_quiet_op
  refine hK _ ?_
  clear hK K
  refine Fam.read_ ?_ (by rfl) (by rfl) (fun m' _ u hu => ?_) ?_
  rotate_left
  · obtain rfl : m' = 0 := by have := Fam.inR_le ‹_› 0 (by decide) (by kernel_rfl); omega
    have hu' : RS w v4 u := hu
    have c0 := hu'.at p (by rw [HV4.out]; omega)
    clear hu'; clear hu; go_simp; rfl
  simp only [Act.put, List.setIfInBounds_toArray, List.set_cons_zero, List.set_cons_succ]
  refine Fam.pure_ (by rfl) (by rfl) rfl (fun K hK => ?_)
  go_big_quiet_op
  refine hK _ ?_
  clear hK K
  refine Fam.pure_ (by rfl) (by rfl) rfl (fun K hK => ?_)
  go_big_quiet_op
  refine hK _ ?_
  clear hK K
  refine Fam.read_ ?_ (by rfl) (by rfl) (fun m' _ u hu => ?_) ?_
  rotate_left
  · obtain rfl : m' = 0 := by have := Fam.inR_le ‹_› 0 (by decide) (by kernel_rfl); omega
    have hu' : RS w v4 u := hu
    have c0 := hu'.at q (by rw [HV4.out]; omega)
    clear hu'; clear hu; go_simp; rfl
  simp only [Act.put, List.setIfInBounds_toArray, List.set_cons_zero, List.set_cons_succ]
  refine Fam.pure_ (by rfl) (by rfl) rfl (fun K hK => ?_)
  go_big_quiet_op
  refine hK _ ?_
  clear hK K
  refine Fam.pure_ (by rfl) (by rfl) rfl (fun K hK => ?_)
  go_big_quiet_op
  refine hK _ ?_
  clear hK K
  refine Fam.pure_ (by rfl) (by rfl) rfl (fun K hK => ?_)
  go_big_quiet_op
  refine hK _ ?_
  clear hK K
  refine Fam.pure_ (by rfl) (by rfl) rfl (fun K hK => ?_)
  go_big_quiet_op
  refine hK _ ?_
  clear hK K
  refine Fam.store_ (by rfl) (by rfl) (fun u hu => ?_) ?_
  · have hu' : RS w v4 u := hu
    have c0 := hu'.at p (by rw [HV4.out]; omega)
    have f0 := hu'.1.frozen p
    have g0 := hu'.set p (hA (v4.getD p 0) (v4.getD q 0) y)
    rw [HX5.out] at g0
    refine ⟨_, ?_, g0⟩
    clear g0 hu hu'
    unfold hA
    go_simp
    rw [Int.add_assoc]
  try simp only [Act.put, List.setIfInBounds_toArray, List.set_cons_zero, List.set_cons_succ]
  refine Fam.nil_ ?_
  rintro U5 hS
  replace hS : RS w v5 U5 := hS
  go_wp2_with fail
  obtain ⟨v6, hv6⟩ : ∃ l, l = sXor r8 s p v5 := ⟨_, rfl⟩
  have HX6 : Hid (v5.set s (r8 (xr (v5.getD s 0) (v5.getD p 0))) = v6) := Lib.hid hv6.symm
  have HV6 : Hid (v6.length = 16) := Lib.hid (by rw [hv6, sXor_length, HV5.out])
  rw [← hv6] at HE
  clear hv6
  refine Fam.wp_region_fam [10] (fun m u => RS w (two v5 v6 m) u) (by kernel_rfl) (by kernel_rfl) hS.drew ?_
  refine Fam.pure_ (by rfl) (by rfl) rfl (fun K hK => ?_)
  go_big_quiet_op
  refine hK _ ?_
  clear hK K
  refine Fam.pure_ (by rfl) (by rfl) rfl (fun K hK => ?_)
  go_big_quiet_op
  refine hK _ ?_
  clear hK K
  refine Fam.pure_ (by rfl) (by rfl) rfl (fun K hK => ?_)
  go_big_quiet_op
  refine hK _ ?_
  clear hK K
  refine Fam.read_ ?_ (by rfl) (by rfl) (fun m' _ u hu => ?_) ?_
  rotate_left
  · obtain rfl : m' = 0 := by have := Fam.inR_le ‹_› 0 (by decide) (by kernel_rfl); omega
    have hu' : RS w v5 u := hu
    have c0 := hu'.at s (by rw [HV5.out]; omega)
    clear hu'; clear hu; go_simp; rfl
  simp only [Act.put, List.setIfInBounds_toArray, List.set_cons_zero, List.set_cons_succ]
  refine Fam.pure_ (by rfl) (by rfl) rfl (fun K hK => ?_)
  go_big_quiet_op
  refine hK _ ?_
  clear hK K
  refine Fam.pure_ (by rfl) (by rfl) rfl (fun K hK => ?_)
  go_big_quiet_op
  refine hK _ ?_
  clear hK K
  refine Fam.read_ ?_ (by rfl) (by rfl) (fun m' _ u hu => ?_) ?_
  rotate_left
  · obtain rfl : m' = 0 := by have := Fam.inR_le ‹_› 0 (by decide) (by kernel_rfl); omega
    have hu' : RS w v5 u := hu
    have c0 := hu'.at p (by rw [HV5.out]; omega)
    clear hu'; clear hu; go_simp; rfl
  simp only [Act.put, List.setIfInBounds_toArray, List.set_cons_zero, List.set_cons_succ]
  refine Fam.pure_ (by rfl) (by rfl) rfl (fun K hK => ?_)
  go_big_quiet_op
  refine hK _ ?_
  clear hK K
  refine Fam.call_ (.int .u32 (r8 (xr (v5.getD s 0) (v5.getD p 0)))) 35 ?_ (by rfl) (by rfl) (fun w => ?_) (fun m' _ u hu => ?_) ?_
  rotate_left
  · go_simp; rfl
  · exact (turn8 _ u).mono fun e u' ⟨he, hw⟩ => ⟨he, hw ▸ hu⟩
  simp only [Act.put, List.setIfInBounds_toArray, List.set_cons_zero, List.set_cons_succ]
  refine Fam.pure_ (by rfl) (by rfl) rfl (fun K hK => ?_)
  go_big_quiet_op
  refine hK _ ?_
  clear hK K
  refine Fam.store_ (by rfl) (by rfl) (fun u hu => ?_) ?_
  · have hu' : RS w v5 u := hu
    have c0 := hu'.at s (by rw [HV5.out]; omega)
    have f0 := hu'.1.frozen s
    have g0 := hu'.set s (r8 (xr (v5.getD s 0) (v5.getD p 0)))
    rw [HX6.out] at g0
    refine ⟨_, ?_, g0⟩
    clear g0 hu hu'
    unfold xr
    go_simp
  try simp only [Act.put, List.setIfInBounds_toArray, List.set_cons_zero, List.set_cons_succ]
  refine Fam.nil_ ?_
  rintro U6 hS
  replace hS : RS w v6 U6 := hS
  go_wp2_with fail
  obtain ⟨v7, hv7⟩ : ∃ l, l = sSum r s v6 := ⟨_, rfl⟩
  have HX7 : Hid (v6.set r ((v6.getD r 0 + v6.getD s 0) % 4294967296) = v7) := Lib.hid hv7.symm
  have HV7 : Hid (v7.length = 16) := Lib.hid (by rw [hv7, sSum_length, HV6.out])
  rw [← hv7] at HE
  clear hv7
  refine Fam.wp_region_fam [9] (fun m u => RS w (two v6 v7 m) u) (by kernel_rfl) (by kernel_rfl) hS.drew ?_
  refine Fam.pure_ (by rfl) (by rfl) rfl (fun K hK => ?_)
  go_big_quiet_op
  refine hK _ ?_
  clear hK K
  refine Fam.pure_ (by rfl) (by rfl) rfl (fun K hK => ?_)
  go_big_quiet_op
  refine hK _ ?_
  clear hK K
  refine Fam.pure_ (by rfl) (by rfl) rfl (fun K hK => ?_)
  go_big_quiet_op
  refine hK _ ?_
  clear hK K
  refine Fam.read_ ?_ (by rfl) (by rfl) (fun m' _ u hu => ?_) ?_
  rotate_left
  · obtain rfl : m' = 0 := by have := Fam.inR_le ‹_› 0 (by decide) (by kernel_rfl); omega
    have hu' : RS w v6 u := hu
    have c0 := hu'.at r (by rw [HV6.out]; omega)
    clear hu'; clear hu; go_simp; rfl
  simp only [Act.put, List.setIfInBounds_toArray, List.set_cons_zero, List.set_cons_succ]
  refine Fam.pure_ (by rfl) (by rfl) rfl (fun K hK => ?_)
  go_big_quiet_op
  refine hK _ ?_
  clear hK K
  refine Fam.pure_ (by rfl) (by rfl) rfl (fun K hK => ?_)
  go_big_quiet_op
  refine hK _ ?_
  clear hK K
  refine Fam.read_ ?_ (by rfl) (by rfl) (fun m' _ u hu => ?_) ?_
  rotate_left
  · obtain rfl : m' = 0 := by have := Fam.inR_le ‹_› 0 (by decide) (by kernel_rfl); omega
    have hu' : RS w v6 u := hu
    have c0 := hu'.at s (by rw [HV6.out]; omega)
    clear hu'; clear hu; go_simp; rfl
  simp only [Act.put, List.setIfInBounds_toArray, List.set_cons_zero, List.set_cons_succ]
  refine Fam.pure_ (by rfl) (by rfl) rfl (fun K hK => ?_)
  go_big_quiet_op
  refine hK _ ?_
  clear hK K
  refine Fam.pure_ (by rfl) (by rfl) rfl (fun K hK => ?_)
  go_big_quiet_op
  refine hK _ ?_
  clear hK K
  refine Fam.store_ (by rfl) (by rfl) (fun u hu => ?_) ?_
  · have hu' : RS w v6 u := hu
    have c0 := hu'.at r (by rw [HV6.out]; omega)
    have f0 := hu'.1.frozen r
    have g0 := hu'.set r ((v6.getD r 0 + v6.getD s 0) % 4294967296)
    rw [HX7.out] at g0
    refine ⟨_, ?_, g0⟩
    clear g0 hu hu'
    go_simp
  try simp only [Act.put, List.setIfInBounds_toArray, List.set_cons_zero, List.set_cons_succ]
  refine Fam.nil_ ?_
  rintro U7 hS
  replace hS : RS w v7 U7 := hS
  go_wp2_with fail
  obtain ⟨v8, hv8⟩ : ∃ l, l = sXor r7 q r v7 := ⟨_, rfl⟩
  have HX8 : Hid (v7.set q (r7 (xr (v7.getD q 0) (v7.getD r 0))) = v8) := Lib.hid hv8.symm
  have HV8 : Hid (v8.length = 16) := Lib.hid (by rw [hv8, sXor_length, HV7.out])
  rw [← hv8] at HE
  clear hv8
  refine Fam.wp_region_fam [10] (fun m u => RS w (two v7 v8 m) u) (by kernel_rfl) (by kernel_rfl) hS.drew ?_
  refine Fam.pure_ (by rfl) (by rfl) rfl (fun K hK => ?_)
  go_big_quiet_op
  refine hK _ ?_
  clear hK K
  refine Fam.pure_ (by rfl) (by rfl) rfl (fun K hK => ?_)
  go_big_quiet_op
  refine hK _ ?_
  clear hK K
  refine Fam.pure_ (by rfl) (by rfl) rfl (fun K hK => ?_)
  go_big_quiet_op
  refine hK _ ?_
  clear hK K
  refine Fam.read_ ?_ (by rfl) (by rfl) (fun m' _ u hu => ?_) ?_
  rotate_left
  · obtain rfl : m' = 0 := by have := Fam.inR_le ‹_› 0 (by decide) (by kernel_rfl); omega
    have hu' : RS w v7 u := hu
    have c0 := hu'.at q (by rw [HV7.out]; omega)
    clear hu'; clear hu; go_simp; rfl
  simp only [Act.put, List.setIfInBounds_toArray, List.set_cons_zero, List.set_cons_succ]
  refine Fam.pure_ (by rfl) (by rfl) rfl (fun K hK => ?_)
  go_big_quiet_op
  refine hK _ ?_
  clear hK K
  refine Fam.pure_ (by rfl) (by rfl) rfl (fun K hK => ?_)
  go_big_quiet_op
  refine hK _ ?_
  clear hK K
  refine Fam.read_ ?_ (by rfl) (by rfl) (fun m' _ u hu => ?_) ?_
  rotate_left
  · obtain rfl : m' = 0 := by have := Fam.inR_le ‹_› 0 (by decide) (by kernel_rfl); omega
    have hu' : RS w v7 u := hu
    have c0 := hu'.at r (by rw [HV7.out]; omega)
    clear hu'; clear hu; go_simp; rfl
  simp only [Act.put, List.setIfInBounds_toArray, List.set_cons_zero, List.set_cons_succ]
  refine Fam.pure_ (by rfl) (by rfl) rfl (fun K hK => ?_)
  go_big_quiet_op
  refine hK _ ?_
  clear hK K
  refine Fam.call_ (.int .u32 (r7 (xr (v7.getD q 0) (v7.getD r 0)))) 35 ?_ (by rfl) (by rfl) (fun w => ?_) (fun m' _ u hu => ?_) ?_
  rotate_left
  · go_simp; rfl
  · exact (turn7 _ u).mono fun e u' ⟨he, hw⟩ => ⟨he, hw ▸ hu⟩
  simp only [Act.put, List.setIfInBounds_toArray, List.set_cons_zero, List.set_cons_succ]
  refine Fam.pure_ (by rfl) (by rfl) rfl (fun K hK => ?_)
  go_big_quiet_op
  refine hK _ ?_
  clear hK K
  refine Fam.store_ (by rfl) (by rfl) (fun u hu => ?_) ?_
  · have hu' : RS w v7 u := hu
    have c0 := hu'.at q (by rw [HV7.out]; omega)
    have f0 := hu'.1.frozen q
    have g0 := hu'.set q (r7 (xr (v7.getD q 0) (v7.getD r 0)))
    rw [HX8.out] at g0
    refine ⟨_, ?_, g0⟩
    clear g0 hu hu'
    unfold xr
    go_simp
  try simp only [Act.put, List.setIfInBounds_toArray, List.set_cons_zero, List.set_cons_succ]
  refine Fam.nil_ ?_
  rintro U8 hS
  replace hS : RS w v8 U8 := hS
  have hsz : (Tryd.prog.info? 50).map (·.size) = some (u32s v8).toArray.size := by rw [size16, List.size_toArray, u32s_length, HV8.out]
  go_wp2_with (first | (refine wpList_load_row rfl 50 (.tmp 7) rfl w.heap.size rfl 50 (u32s v8).toArray (0, 0) _ hS.1 Tryd.underlying50 rfl hsz ?_) | (refine wpList_store_row rfl 50 (.tmp 14) (.tmp 95) rfl (w.heap.size + 1) (u32s v8).toArray rfl rfl 50 (u32s (List.replicate 16 0)).toArray hS.2.1 hsz (by rw [List.size_toArray, List.size_toArray, u32s_length, u32s_length, HV8.out]; rfl) (by rw [Array.all_eq_true_iff_forall_mem]; intro z hz; exact u32s_one _ z (by simpa using hz)) ?_))
  refine bodyPost_ret (v := .agg (u32s v8).toArray) (results_cell_row Tryd.results27 _ _ (w.heap.size + 1) 50 _ _ _ rfl (hS.2.1.put (u32s v8)) Tryd.underlying50 rfl hsz) rfl ⟨by rw [HE.out], below_setRow hS.2.2 (by omega) _⟩
end Go.Proofs.YtocfaglcaefnoaaDoor
