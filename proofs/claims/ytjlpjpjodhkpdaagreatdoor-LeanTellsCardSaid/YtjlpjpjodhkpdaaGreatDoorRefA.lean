/- The figures 0 to f. · cartoucheref02: first, Start, order, figure. · cartoucheref02.mix: it makes mixL. · cartoucheref02: order, figure. · '[]byte(s)' and noughts appended: the row that the conversion laid, and the rows behind it. · cartoucheref02.pad. -/
import Derived.Test.YtjlpjpjodhkpdaaGreatDoorProg
import Derived.Test.YtjlpjpjodhkpdaaGreatDoorBlockM
import Derived.Test.YtjlpjpjodhkpdaaGreatDoorBase
import Derived.StillTailTactics
import Derived.Lib.Builder
import Derived.Lib.UnsafeStr
import Derived.Laws.IdiomStrings
import Derived.Test.YtjlpjpjodhkpdaaGreatDoorSumM
set_option maxHeartbeats 2000000
set_option maxRecDepth 100000
set_option linter.unusedVariables false
set_option linter.unusedSimpArgs false
namespace Go.Proofs.YtjlpjpjodhkpdaaGreatDoor
def digs : ByteArray := ⟨#[48, 49, 50, 51, 52, 53, 54, 55, 56, 57, 97, 98, 99, 100, 101, 102]⟩
def hx (b : UInt8) : List UInt8 := [digs.data.getD (b.toNat / 16) 0, digs.data.getD (b.toNat % 16) 0]
end Go.Proofs.YtjlpjpjodhkpdaaGreatDoor
namespace Go.Proofs.YtjlpjpjodhkpdaaGreatDoor
open Go.RowKit
theorem back32 (a : BitVec 32) : BitVec.ofInt 32 ((a.toNat : Int) % 4294967296) = a := by
 apply BitVec.eq_of_toNat_eq
 rw [BitVec.toNat_ofInt]
 have := a.isLt
 omega
theorem xr_assoc (x y z : Int) : xr (xr x y) z = xr x (xr y z) := by
 have e : ∀ x y, xr x y = ((BitVec.ofInt 32 x ^^^ BitVec.ofInt 32 y).toNat : Int) % 4294967296 := fun x y => by
  show IntKind.u32.wrap _ = _
  rw [IntKind.wrap_u32]
  rfl
 rw [e, e, e, e, back32, back32, BitVec.xor_assoc]
theorem first_any (w : World) :
 Calls Tryz.prog 86 #[] w fun e w' => e = .returned (.slice (some ⟨w.heap.size, 0, none⟩) 8 8) ∧ w' = w.alloc (.cells (u32s begins).toArray 94) := by
 go_enter Tryz.func86, Tryz.ntmps86
 go_wp2
 go_ret
 exact ⟨rfl, rfl⟩
theorem rstart_ok (key : Int) (h0 : 0 ≤ key) (h1 : key ≤ 32) (w : World) :
 Calls Tryz.prog 53 #[.int .i64 key] w fun e w' =>
  e = .returned (.tuple #[.agg (u32s (startL key)).toArray, .int .i64 0]) ∧ Below w.heap.size w w' := by
 have hx : xr (xr 1779033703 16842784) (key * 256) = xr 1779033703 (xr 16842784 (key * 256)) := xr_assoc _ _ _
 unfold xr at hx
 have HX := Lib.hid hx
 clear hx
 go_enter Tryz.func53, Tryz.ntmps53
 go_wp2_with (go_at_call 86; refine (first_any _).mono ?_)
 rintro e u ⟨rfl, rfl⟩
 have r1 := ((RowIs.new w 95 (u32s (bpart 0))).alloc (.cells (u32s (bpart 0)).toArray 95)).alloc (.cells (u32s begins).toArray 94)
 have r2 := (RowIs.new (w.alloc (.cells (u32s (bpart 0)).toArray 95)) 95 (u32s (bpart 0))).alloc (.cells (u32s begins).toArray 94)
 have r3 := RowIs.new ((w.alloc (.cells (u32s (bpart 0)).toArray 95)).alloc (.cells (u32s (bpart 0)).toArray 95)) 94 (u32s begins)
 have hb := (((Below.refl w.heap.size w).alloc (Nat.le_refl _) (.cells (u32s (bpart 0)).toArray 95)).alloc (by simp) (.cells (u32s (bpart 0)).toArray 95)).alloc (by simp; omega) (.cells (u32s begins).toArray 94)
 rw [World.size_alloc] at r2
 rw [World.size_alloc, World.size_alloc] at r3
 have e0 : (u32s (bpart 0)).toArray = #[.int .u32 0, .int .u32 0, .int .u32 0, .int .u32 0, .int .u32 0, .int .u32 0, .int .u32 0, .int .u32 0] := rfl
 rw [e0] at r1 r2 r3 hb
 clear e0
 go_wp2_with fail
 generalize World.alloc _ _ = W at *
 go_loopw [6] (fun c u => ∃ k : Nat, k ≤ 8 ∧ c = .int .i64 k ∧ RowIs u w.heap.size 95 (u32s (bpart 0)) ∧ RowIs u (w.heap.size + 1) 95 (u32s (bpart k)) ∧ RowIs u (w.heap.size + 1 + 1) 94 (u32s begins) ∧ Below w.heap.size w u) (fun c _ => 8 - (intOf c).toNat)
 case atStart => exact ⟨0, by omega, rfl, r1, r2, r3, hb⟩
 case round =>
  clear r1 r2 r3 hb
  obtain ⟨k, hk, rfl, q1, q2, q4, q3⟩ := hrel
  by_cases hlt : k < 8
  · have c0 := q4.cell (u32s_get _ k (by show k < begins.length; simp [begins]; exact hlt))
    have c1 := q2.cell (u32s_get _ k (by rw [bpart_length k hk]; exact hlt))
    have f1 := q2.frozen k
    have g1 := q2.set k (.int .u32 (begins.getD k 0))
    rw [u32s_set, bpart_next k hlt] at g1
    have g0 := q1.other (a := ⟨w.heap.size + 1, k, none⟩) (by simp) (.int .u32 (begins.getD k 0))
    have g4 := q4.other (a := ⟨w.heap.size + 1, k, none⟩) (by simp) (.int .u32 (begins.getD k 0))
    have g2 := q3.setCell (p := ⟨w.heap.size + 1, k, none⟩) (by simp) (.int .u32 (begins.getD k 0))
    clear q1 q2 q3 q4
    generalize begins.getD k 0 = z at *
    go_wp2
    go_roundw
    case rel => exact ⟨k + 1, by omega, by go_num, g0, g1, g4, g2⟩
    case measure => simp [intOf]; omega
  · obtain rfl : k = 8 := by omega
    have hbg : bpart 8 = [1779033703, 3144134277, 1013904242, 2773480762, 1359893119, 2600822924, 528734635, 1541459225] := rfl
    have hz : bpart 0 = [0, 0, 0, 0, 0, 0, 0, 0] := rfl
    rw [hbg] at q2
    rw [hz] at q1
    clear hbg hz q4
    have z0 := q2.cell (i := 0) rfl; have y0 := q1.cell (i := 0) rfl; have f0 := q1.frozen 0; have k0 := q2.frozen 0
    have z1 := q2.cell (i := 1) rfl; have y1 := q1.cell (i := 1) rfl; have f1 := q1.frozen 1
    have z2 := q2.cell (i := 2) rfl; have y2 := q1.cell (i := 2) rfl; have f2 := q1.frozen 2
    have z3 := q2.cell (i := 3) rfl; have y3 := q1.cell (i := 3) rfl; have f3 := q1.frozen 3
    have z4 := q2.cell (i := 4) rfl; have y4 := q1.cell (i := 4) rfl; have f4 := q1.frozen 4
    have z5 := q2.cell (i := 5) rfl; have y5 := q1.cell (i := 5) rfl; have f5 := q1.frozen 5
    have z6 := q2.cell (i := 6) rfl; have y6 := q1.cell (i := 6) rfl; have f6 := q1.frozen 6
    have z7 := q2.cell (i := 7) rfl; have y7 := q1.cell (i := 7) rfl; have f7 := q1.frozen 7
    clear q1 q2
    go_wp2
    refine bodyPost_ret (v := .tuple #[.agg (u32s (startL key)).toArray, .int .i64 0]) (by simp [results, Tryz.results53, go_sem, y0, y1, y2, y3, y4, y5, y6, y7]; rw [Int.mul_comm 256 key, HX.out]; rfl) rfl ⟨rfl, ?_⟩
    repeat (refine Below.setCell ?_ (by simp) _)
    exact q3
end Go.Proofs.YtjlpjpjodhkpdaaGreatDoor
namespace Go.Proofs.YtjlpjpjodhkpdaaGreatDoor
open Go.RowKit
def sAdd (p q : Nat) (x : Int) (v : List Int) : List Int := v.set p (hA (v.getD p 0) (v.getD q 0) x)
def sXor (R : Int → Int) (s p : Nat) (v : List Int) : List Int := v.set s (R (xr (v.getD s 0) (v.getD p 0)))
def sSum (r s : Nat) (v : List Int) : List Int := v.set r ((v.getD r 0 + v.getD s 0) % 4294967296)
theorem sAdd_length (p q : Nat) (x : Int) (v : List Int) : (sAdd p q x v).length = v.length := by simp [sAdd]
theorem sXor_length (R : Int → Int) (s p : Nat) (v : List Int) : (sXor R s p v).length = v.length := by simp [sXor]
theorem sSum_length (r s : Nat) (v : List Int) : (sSum r s v).length = v.length := by simp [sSum]
def rmixL (p q r s : Nat) (x y : Int) (v : List Int) : List Int :=
 sXor r7 q r (sSum r s (sXor r8 s p (sAdd p q y (sXor r12 q r (sSum r s (sXor r16 s p (sAdd p q x v)))))))
theorem getD_same (v : List Int) (i : Nat) (a : Int) (h : i < v.length) : (v.set i a).getD i 0 = a := by
 rw [List.getD_eq_getElem?_getD, List.getElem?_set_self h]; rfl
theorem getD_other (v : List Int) (i j : Nat) (a : Int) (h : i ≠ j) : (v.set i a).getD j 0 = v.getD j 0 := by
 rw [List.getD_eq_getElem?_getD, List.getD_eq_getElem?_getD, List.getElem?_set_ne h]
theorem rmixL_eq (p q r s : Nat) (x y : Int) (v : List Int) (hv : v.length = 16) (h0 : p < 16) (h1 : q < 16) (h2 : r < 16) (h3 : s < 16) (hpq : p ≠ q) (hpr : p ≠ r) (hps : p ≠ s) (hqr : q ≠ r) (hqs : q ≠ s) (hrs : r ≠ s) :
 rmixL p q r s x y v = mixL p q r s x y v := by
 generalize ha : v.getD p 0 = a
 generalize hb : v.getD q 0 = b
 generalize hc : v.getD r 0 = c
 generalize hd : v.getD s 0 = d
 obtain ⟨a1, e1⟩ : ∃ z, z = hA a b x := ⟨_, rfl⟩
 obtain ⟨d1, e2⟩ : ∃ z, z = hD r16 a b d x := ⟨_, rfl⟩
 obtain ⟨c1, e3⟩ : ∃ z, z = hC r16 a b c d x := ⟨_, rfl⟩
 obtain ⟨b1, e4⟩ : ∃ z, z = hB r16 r12 a b c d x := ⟨_, rfl⟩
 obtain ⟨a2, e5⟩ : ∃ z, z = hA a1 b1 y := ⟨_, rfl⟩
 obtain ⟨d2, e6⟩ : ∃ z, z = hD r8 a1 b1 d1 y := ⟨_, rfl⟩
 obtain ⟨c2, e7⟩ : ∃ z, z = hC r8 a1 b1 c1 d1 y := ⟨_, rfl⟩
 obtain ⟨b2, e8⟩ : ∃ z, z = hB r8 r7 a1 b1 c1 d1 y := ⟨_, rfl⟩
 have q1 : sAdd p q x v = v.set p a1 := by unfold sAdd; rw [ha, hb, e1]
 have q2 : sXor r16 s p (v.set p a1) = (v.set p a1).set s d1 := by
  unfold sXor
  rw [getD_other _ _ _ _ hps, getD_same _ _ _ (by omega), hd, e2, e1]; rfl
 have q3 : sSum r s ((v.set p a1).set s d1) = ((v.set p a1).set s d1).set r c1 := by
  unfold sSum
  rw [getD_other _ _ _ _ (Ne.symm hrs), getD_same _ _ _ (by simp; omega), getD_other _ _ _ _ hpr, hc, e3, e2]; rfl
 have q4 : sXor r12 q r (((v.set p a1).set s d1).set r c1) = (((v.set p a1).set s d1).set r c1).set q b1 := by
  unfold sXor
  rw [getD_other _ _ _ _ (Ne.symm hqr), getD_same _ _ _ (by simp; omega), getD_other _ _ _ _ (Ne.symm hqs), getD_other _ _ _ _ hpq, hb, e4, e3]; rfl
 have q5 : sAdd p q y ((((v.set p a1).set s d1).set r c1).set q b1) = ((((v.set p a1).set s d1).set r c1).set q b1).set p a2 := by
  unfold sAdd
  rw [getD_other _ _ _ _ (Ne.symm hpq), getD_same _ _ _ (by simp; omega), getD_other _ _ _ _ (Ne.symm hpr), getD_other _ _ _ _ (Ne.symm hps), getD_same _ _ _ (by omega), e5]
 have q6 : sXor r8 s p (((((v.set p a1).set s d1).set r c1).set q b1).set p a2) = (((((v.set p a1).set s d1).set r c1).set q b1).set p a2).set s d2 := by
  unfold sXor
  rw [getD_other _ _ _ _ hps, getD_same _ _ _ (by simp; omega), getD_other _ _ _ _ hqs, getD_other _ _ _ _ hrs, getD_same _ _ _ (by simp; omega), e6, e5]; rfl
 have q7 : sSum r s ((((((v.set p a1).set s d1).set r c1).set q b1).set p a2).set s d2) = ((((((v.set p a1).set s d1).set r c1).set q b1).set p a2).set s d2).set r c2 := by
  unfold sSum
  rw [getD_other _ _ _ _ (Ne.symm hrs), getD_same _ _ _ (by simp; omega), getD_other _ _ _ _ hpr, getD_other _ _ _ _ hqr, getD_same _ _ _ (by simp; omega), e7, e6]; rfl
 have q8 : sXor r7 q r (((((((v.set p a1).set s d1).set r c1).set q b1).set p a2).set s d2).set r c2) = (((((((v.set p a1).set s d1).set r c1).set q b1).set p a2).set s d2).set r c2).set q b2 := by
  unfold sXor
  rw [getD_other _ _ _ _ (Ne.symm hqr), getD_same _ _ _ (by simp; omega), getD_other _ _ _ _ (Ne.symm hqs), getD_other _ _ _ _ hpq, getD_same _ _ _ (by simp; omega), e8, e7]; rfl
 unfold rmixL
 rw [q1, q2, q3, q4, q5, q6, q7, q8]
 unfold mixL
 simp only [ha, hb, hc, hd, ← e1, ← e2, ← e3, ← e4, ← e5, ← e6, ← e7, ← e8]
 apply List.ext_getElem?
 intro i
 by_cases ip : p = i
 · subst ip
   simp [List.getElem?_set, hv, h0, Ne.symm hpq, Ne.symm hpr, Ne.symm hps]
 by_cases iq : q = i
 · subst iq
   simp [List.getElem?_set, hv, h1, hpq, Ne.symm hqr, Ne.symm hqs]
 by_cases ir : r = i
 · subst ir
   simp [List.getElem?_set, hv, h2, hpr, hqr, Ne.symm hrs]
 by_cases is : s = i
 · subst is
   simp [List.getElem?_set, hv, h3, hps, hqs, hrs]
 simp [List.getElem?_set, ip, iq, ir, is]
def RS (w : World) (l : List Int) (u : World) : Prop :=
 RowIs u w.heap.size 159 (u32s l) ∧ RowIs u (w.heap.size + 1) 159 (u32s (List.replicate 16 0)) ∧ Below w.heap.size w u
theorem RS.drew {w u : World} {l : List Int} (b : RS w l u) : RS w l u.drew := ⟨b.1, b.2.1, b.2.2.drew⟩
theorem RS.set {w u : World} {l : List Int} (b : RS w l u) (i : Nat) (x : Int) : RS w (l.set i x) (u.setCell ⟨w.heap.size, i, none⟩ (.int .u32 x)) := by
 obtain ⟨q0, q1, q2⟩ := b
 have e := q0.set i (.int .u32 x)
 rw [u32s_set] at e
 exact ⟨e, q1.other (by show _ ≠ w.heap.size; omega) _, q2.setCell (Nat.le_refl _) _⟩
theorem RS.at {w u : World} {l : List Int} (b : RS w l u) (i : Nat) (hi : i < l.length) : u.cell? ⟨w.heap.size, i, none⟩ = some (.int .u32 (l.getD i 0)) := b.1.cell (u32s_get l i hi)
def two (a b : List Int) : Nat → List Int
 | 0 => a
 | _ + 1 => b
theorem rmix_any (p q r s : Nat) (h0 : p < 16) (h1 : q < 16) (h2 : r < 16) (h3 : s < 16) (hpq : p ≠ q) (hpr : p ≠ r) (hps : p ≠ s) (hqr : q ≠ r) (hqs : q ≠ s) (hrs : r ≠ s) (v : List Int) (hv : v.length = 16) (x y : Int) (w : World) :
 Calls Tryz.prog 118 #[.agg (u32s v).toArray, .int .i64 p, .int .i64 q, .int .i64 r, .int .i64 s, .int .u32 x, .int .u32 y] w fun e w' =>
  e = .returned (.agg (u32s (mixL p q r s x y v)).toArray) ∧ Below w.heap.size w w' := by
 have hend := rmixL_eq p q r s x y v hv h0 h1 h2 h3 hpq hpr hps hqr hqs hrs
 unfold rmixL at hend
 have i0 : (p : Int) < 16 := by omega
 have i1 : (q : Int) < 16 := by omega
 have i2 : (r : Int) < 16 := by omega
 have i3 : (s : Int) < 16 := by omega
 have HE := Lib.hid hend; have HV := Lib.hid hv
 clear hend hv hpq hpr hps hqr hqs hrs
 go_enter Tryz.func118, Tryz.ntmps118
 go_wp2_with fail
 have hS : RS w v ((w.alloc (.cells (u32s v).toArray 159)).alloc (.cells (u32s (List.replicate 16 0)).toArray 159)) := by
  refine ⟨(RowIs.new _ _ _).alloc _, ?_, ((Below.refl _ _).alloc (Nat.le_refl _) _).alloc (by simp) _⟩
  have := RowIs.new (w.alloc (.cells (u32s v).toArray 159)) 159 (u32s (List.replicate 16 0))
  rw [World.size_alloc] at this; exact this
 have e1 : (u32s (List.replicate 16 0)).toArray = #[.int .u32 0, .int .u32 0, .int .u32 0, .int .u32 0, .int .u32 0, .int .u32 0, .int .u32 0, .int .u32 0, .int .u32 0, .int .u32 0, .int .u32 0, .int .u32 0, .int .u32 0, .int .u32 0, .int .u32 0, .int .u32 0] := rfl
 rw [e1] at hS
 clear e1
 generalize World.alloc _ _ = W at *
 obtain ⟨v1, hv1⟩ : ∃ l, l = sAdd p q x v := ⟨_, rfl⟩
 have HX1 : Hid (v.set p (hA (v.getD p 0) (v.getD q 0) x) = v1) := Lib.hid hv1.symm
 have HV1 : Hid (v1.length = 16) := Lib.hid (by rw [hv1, sAdd_length, HV.out])
 rw [← hv1] at HE
 clear hv1
 refine Fam.wp_region_fam [11] (fun m u => RS w (two v v1 m) u) (by kernel_rfl) (by kernel_rfl) hS.drew ?_
 iterate 3 (refine Fam.pure_ (by rfl) (by rfl) rfl (fun K hK => ?_); go_big_quiet_op; refine hK _ ?_; clear hK K)
 refine Fam.read_ ?_ (by rfl) (by rfl) (fun m' _ u hu => ?_) ?_
 rotate_left
 · obtain rfl : m' = 0 := by have := Fam.inR_le ‹_› 0 (by decide) (by kernel_rfl); omega
   have hu' : RS w v u := hu
   have c0 := hu'.at p (by rw [HV.out]; omega)
   clear hu'; clear hu; go_simp; rfl
 simp only [Act.put, List.setIfInBounds_toArray, List.set_cons_zero, List.set_cons_succ]
 iterate 2 (refine Fam.pure_ (by rfl) (by rfl) rfl (fun K hK => ?_); go_big_quiet_op; refine hK _ ?_; clear hK K)
 refine Fam.read_ ?_ (by rfl) (by rfl) (fun m' _ u hu => ?_) ?_
 rotate_left
 · obtain rfl : m' = 0 := by have := Fam.inR_le ‹_› 0 (by decide) (by kernel_rfl); omega
   have hu' : RS w v u := hu
   have c0 := hu'.at q (by rw [HV.out]; omega)
   clear hu'; clear hu; go_simp; rfl
 simp only [Act.put, List.setIfInBounds_toArray, List.set_cons_zero, List.set_cons_succ]
 iterate 4 (refine Fam.pure_ (by rfl) (by rfl) rfl (fun K hK => ?_); go_big_quiet_op; refine hK _ ?_; clear hK K)
 refine Fam.store_ (by rfl) (by rfl) (fun u hu => ?_) ?_
 · have hu' : RS w v u := hu
   have c0 := hu'.at p (by rw [HV.out]; omega)
   have f0 := hu'.1.frozen p
   have g0 := hu'.set p (hA (v.getD p 0) (v.getD q 0) x)
   rw [HX1.out] at g0
   refine ⟨_, ?_, g0⟩
   clear g0 hu hu'
   unfold hA
   go_simp
   rw [Int.add_assoc]
 try simp only [Act.put, List.setIfInBounds_toArray, List.set_cons_zero, List.set_cons_succ]
 refine Fam.nil_ ?_
 rintro U1 hS
 replace hS : RS w v1 U1 := hS
 go_wp2_with fail
 obtain ⟨v2, hv2⟩ : ∃ l, l = sXor r16 s p v1 := ⟨_, rfl⟩
 have HX2 : Hid (v1.set s (r16 (xr (v1.getD s 0) (v1.getD p 0))) = v2) := Lib.hid hv2.symm
 have HV2 : Hid (v2.length = 16) := Lib.hid (by rw [hv2, sXor_length, HV1.out])
 rw [← hv2] at HE
 clear hv2
 refine Fam.wp_region_fam [10] (fun m u => RS w (two v1 v2 m) u) (by kernel_rfl) (by kernel_rfl) hS.drew ?_
 iterate 3 (refine Fam.pure_ (by rfl) (by rfl) rfl (fun K hK => ?_); go_big_quiet_op; refine hK _ ?_; clear hK K)
 refine Fam.read_ ?_ (by rfl) (by rfl) (fun m' _ u hu => ?_) ?_
 rotate_left
 · obtain rfl : m' = 0 := by have := Fam.inR_le ‹_› 0 (by decide) (by kernel_rfl); omega
   have hu' : RS w v1 u := hu
   have c0 := hu'.at s (by rw [HV1.out]; omega)
   clear hu'; clear hu; go_simp; rfl
 simp only [Act.put, List.setIfInBounds_toArray, List.set_cons_zero, List.set_cons_succ]
 iterate 2 (refine Fam.pure_ (by rfl) (by rfl) rfl (fun K hK => ?_); go_big_quiet_op; refine hK _ ?_; clear hK K)
 refine Fam.read_ ?_ (by rfl) (by rfl) (fun m' _ u hu => ?_) ?_
 rotate_left
 · obtain rfl : m' = 0 := by have := Fam.inR_le ‹_› 0 (by decide) (by kernel_rfl); omega
   have hu' : RS w v1 u := hu
   have c0 := hu'.at p (by rw [HV1.out]; omega)
   clear hu'; clear hu; go_simp; rfl
 simp only [Act.put, List.setIfInBounds_toArray, List.set_cons_zero, List.set_cons_succ]
 refine Fam.pure_ (by rfl) (by rfl) rfl (fun K hK => ?_)
 go_big_quiet_op
 refine hK _ ?_
 clear hK K
 refine Fam.call_ (.int .u32 (r16 (xr (v1.getD s 0) (v1.getD p 0)))) 138 ?_ (by rfl) (by rfl) (fun w => ?_) (fun m' _ u hu => ?_) ?_
 rotate_left
 · go_simp; rfl
 · exact (turn16 _ u).mono fun e u' ⟨he, hw⟩ => ⟨he, hw ▸ hu⟩
 simp only [Act.put, List.setIfInBounds_toArray, List.set_cons_zero, List.set_cons_succ]
 refine Fam.pure_ (by rfl) (by rfl) rfl (fun K hK => ?_)
 go_big_quiet_op
 refine hK _ ?_
 clear hK K
 refine Fam.store_ (by rfl) (by rfl) (fun u hu => ?_) ?_
 · have hu' : RS w v1 u := hu
   have c0 := hu'.at s (by rw [HV1.out]; omega)
   have f0 := hu'.1.frozen s
   have g0 := hu'.set s (r16 (xr (v1.getD s 0) (v1.getD p 0)))
   rw [HX2.out] at g0
   refine ⟨_, ?_, g0⟩
   clear g0 hu hu'
   unfold xr
   go_simp
 try simp only [Act.put, List.setIfInBounds_toArray, List.set_cons_zero, List.set_cons_succ]
 refine Fam.nil_ ?_
 rintro U2 hS
 replace hS : RS w v2 U2 := hS
 go_wp2_with fail
 obtain ⟨v3, hv3⟩ : ∃ l, l = sSum r s v2 := ⟨_, rfl⟩
 have HX3 : Hid (v2.set r ((v2.getD r 0 + v2.getD s 0) % 4294967296) = v3) := Lib.hid hv3.symm
 have HV3 : Hid (v3.length = 16) := Lib.hid (by rw [hv3, sSum_length, HV2.out])
 rw [← hv3] at HE
 clear hv3
 refine Fam.wp_region_fam [9] (fun m u => RS w (two v2 v3 m) u) (by kernel_rfl) (by kernel_rfl) hS.drew ?_
 iterate 3 (refine Fam.pure_ (by rfl) (by rfl) rfl (fun K hK => ?_); go_big_quiet_op; refine hK _ ?_; clear hK K)
 refine Fam.read_ ?_ (by rfl) (by rfl) (fun m' _ u hu => ?_) ?_
 rotate_left
 · obtain rfl : m' = 0 := by have := Fam.inR_le ‹_› 0 (by decide) (by kernel_rfl); omega
   have hu' : RS w v2 u := hu
   have c0 := hu'.at r (by rw [HV2.out]; omega)
   clear hu'; clear hu; go_simp; rfl
 simp only [Act.put, List.setIfInBounds_toArray, List.set_cons_zero, List.set_cons_succ]
 iterate 2 (refine Fam.pure_ (by rfl) (by rfl) rfl (fun K hK => ?_); go_big_quiet_op; refine hK _ ?_; clear hK K)
 refine Fam.read_ ?_ (by rfl) (by rfl) (fun m' _ u hu => ?_) ?_
 rotate_left
 · obtain rfl : m' = 0 := by have := Fam.inR_le ‹_› 0 (by decide) (by kernel_rfl); omega
   have hu' : RS w v2 u := hu
   have c0 := hu'.at s (by rw [HV2.out]; omega)
   clear hu'; clear hu; go_simp; rfl
 simp only [Act.put, List.setIfInBounds_toArray, List.set_cons_zero, List.set_cons_succ]
 iterate 2 (refine Fam.pure_ (by rfl) (by rfl) rfl (fun K hK => ?_); go_big_quiet_op; refine hK _ ?_; clear hK K)
 refine Fam.store_ (by rfl) (by rfl) (fun u hu => ?_) ?_
 · have hu' : RS w v2 u := hu
   have c0 := hu'.at r (by rw [HV2.out]; omega)
   have f0 := hu'.1.frozen r
   have g0 := hu'.set r ((v2.getD r 0 + v2.getD s 0) % 4294967296)
   rw [HX3.out] at g0
   refine ⟨_, ?_, g0⟩
   clear g0 hu hu'
   go_simp
 try simp only [Act.put, List.setIfInBounds_toArray, List.set_cons_zero, List.set_cons_succ]
 refine Fam.nil_ ?_
 rintro U3 hS
 replace hS : RS w v3 U3 := hS
 go_wp2_with fail
 obtain ⟨v4, hv4⟩ : ∃ l, l = sXor r12 q r v3 := ⟨_, rfl⟩
 have HX4 : Hid (v3.set q (r12 (xr (v3.getD q 0) (v3.getD r 0))) = v4) := Lib.hid hv4.symm
 have HV4 : Hid (v4.length = 16) := Lib.hid (by rw [hv4, sXor_length, HV3.out])
 rw [← hv4] at HE
 clear hv4
 refine Fam.wp_region_fam [10] (fun m u => RS w (two v3 v4 m) u) (by kernel_rfl) (by kernel_rfl) hS.drew ?_
 iterate 3 (refine Fam.pure_ (by rfl) (by rfl) rfl (fun K hK => ?_); go_big_quiet_op; refine hK _ ?_; clear hK K)
 refine Fam.read_ ?_ (by rfl) (by rfl) (fun m' _ u hu => ?_) ?_
 rotate_left
 · obtain rfl : m' = 0 := by have := Fam.inR_le ‹_› 0 (by decide) (by kernel_rfl); omega
   have hu' : RS w v3 u := hu
   have c0 := hu'.at q (by rw [HV3.out]; omega)
   clear hu'; clear hu; go_simp; rfl
 simp only [Act.put, List.setIfInBounds_toArray, List.set_cons_zero, List.set_cons_succ]
 iterate 2 (refine Fam.pure_ (by rfl) (by rfl) rfl (fun K hK => ?_); go_big_quiet_op; refine hK _ ?_; clear hK K)
 refine Fam.read_ ?_ (by rfl) (by rfl) (fun m' _ u hu => ?_) ?_
 rotate_left
 · obtain rfl : m' = 0 := by have := Fam.inR_le ‹_› 0 (by decide) (by kernel_rfl); omega
   have hu' : RS w v3 u := hu
   have c0 := hu'.at r (by rw [HV3.out]; omega)
   clear hu'; clear hu; go_simp; rfl
 simp only [Act.put, List.setIfInBounds_toArray, List.set_cons_zero, List.set_cons_succ]
 refine Fam.pure_ (by rfl) (by rfl) rfl (fun K hK => ?_)
 go_big_quiet_op
 refine hK _ ?_
 clear hK K
 refine Fam.call_ (.int .u32 (r12 (xr (v3.getD q 0) (v3.getD r 0)))) 138 ?_ (by rfl) (by rfl) (fun w => ?_) (fun m' _ u hu => ?_) ?_
 rotate_left
 · go_simp; rfl
 · exact (turn12 _ u).mono fun e u' ⟨he, hw⟩ => ⟨he, hw ▸ hu⟩
 simp only [Act.put, List.setIfInBounds_toArray, List.set_cons_zero, List.set_cons_succ]
 refine Fam.pure_ (by rfl) (by rfl) rfl (fun K hK => ?_)
 go_big_quiet_op
 refine hK _ ?_
 clear hK K
 refine Fam.store_ (by rfl) (by rfl) (fun u hu => ?_) ?_
 · have hu' : RS w v3 u := hu
   have c0 := hu'.at q (by rw [HV3.out]; omega)
   have f0 := hu'.1.frozen q
   have g0 := hu'.set q (r12 (xr (v3.getD q 0) (v3.getD r 0)))
   rw [HX4.out] at g0
   refine ⟨_, ?_, g0⟩
   clear g0 hu hu'
   unfold xr
   go_simp
 try simp only [Act.put, List.setIfInBounds_toArray, List.set_cons_zero, List.set_cons_succ]
 refine Fam.nil_ ?_
 rintro U4 hS
 replace hS : RS w v4 U4 := hS
 go_wp2_with fail
 obtain ⟨v5, hv5⟩ : ∃ l, l = sAdd p q y v4 := ⟨_, rfl⟩
 have HX5 : Hid (v4.set p (hA (v4.getD p 0) (v4.getD q 0) y) = v5) := Lib.hid hv5.symm
 have HV5 : Hid (v5.length = 16) := Lib.hid (by rw [hv5, sAdd_length, HV4.out])
 rw [← hv5] at HE
 clear hv5
 refine Fam.wp_region_fam [11] (fun m u => RS w (two v4 v5 m) u) (by kernel_rfl) (by kernel_rfl) hS.drew ?_
 iterate 3 (refine Fam.pure_ (by rfl) (by rfl) rfl (fun K hK => ?_); go_big_quiet_op; refine hK _ ?_; clear hK K)
 refine Fam.read_ ?_ (by rfl) (by rfl) (fun m' _ u hu => ?_) ?_
 rotate_left
 · obtain rfl : m' = 0 := by have := Fam.inR_le ‹_› 0 (by decide) (by kernel_rfl); omega
   have hu' : RS w v4 u := hu
   have c0 := hu'.at p (by rw [HV4.out]; omega)
   clear hu'; clear hu; go_simp; rfl
 simp only [Act.put, List.setIfInBounds_toArray, List.set_cons_zero, List.set_cons_succ]
 iterate 2 (refine Fam.pure_ (by rfl) (by rfl) rfl (fun K hK => ?_); go_big_quiet_op; refine hK _ ?_; clear hK K)
 refine Fam.read_ ?_ (by rfl) (by rfl) (fun m' _ u hu => ?_) ?_
 rotate_left
 · obtain rfl : m' = 0 := by have := Fam.inR_le ‹_› 0 (by decide) (by kernel_rfl); omega
   have hu' : RS w v4 u := hu
   have c0 := hu'.at q (by rw [HV4.out]; omega)
   clear hu'; clear hu; go_simp; rfl
 simp only [Act.put, List.setIfInBounds_toArray, List.set_cons_zero, List.set_cons_succ]
 iterate 4 (refine Fam.pure_ (by rfl) (by rfl) rfl (fun K hK => ?_); go_big_quiet_op; refine hK _ ?_; clear hK K)
 refine Fam.store_ (by rfl) (by rfl) (fun u hu => ?_) ?_
 · have hu' : RS w v4 u := hu
   have c0 := hu'.at p (by rw [HV4.out]; omega)
   have f0 := hu'.1.frozen p
   have g0 := hu'.set p (hA (v4.getD p 0) (v4.getD q 0) y)
   rw [HX5.out] at g0
   refine ⟨_, ?_, g0⟩
   clear g0 hu hu'
   unfold hA
   go_simp
   rw [Int.add_assoc]
 try simp only [Act.put, List.setIfInBounds_toArray, List.set_cons_zero, List.set_cons_succ]
 refine Fam.nil_ ?_
 rintro U5 hS
 replace hS : RS w v5 U5 := hS
 go_wp2_with fail
 obtain ⟨v6, hv6⟩ : ∃ l, l = sXor r8 s p v5 := ⟨_, rfl⟩
 have HX6 : Hid (v5.set s (r8 (xr (v5.getD s 0) (v5.getD p 0))) = v6) := Lib.hid hv6.symm
 have HV6 : Hid (v6.length = 16) := Lib.hid (by rw [hv6, sXor_length, HV5.out])
 rw [← hv6] at HE
 clear hv6
 refine Fam.wp_region_fam [10] (fun m u => RS w (two v5 v6 m) u) (by kernel_rfl) (by kernel_rfl) hS.drew ?_
 iterate 3 (refine Fam.pure_ (by rfl) (by rfl) rfl (fun K hK => ?_); go_big_quiet_op; refine hK _ ?_; clear hK K)
 refine Fam.read_ ?_ (by rfl) (by rfl) (fun m' _ u hu => ?_) ?_
 rotate_left
 · obtain rfl : m' = 0 := by have := Fam.inR_le ‹_› 0 (by decide) (by kernel_rfl); omega
   have hu' : RS w v5 u := hu
   have c0 := hu'.at s (by rw [HV5.out]; omega)
   clear hu'; clear hu; go_simp; rfl
 simp only [Act.put, List.setIfInBounds_toArray, List.set_cons_zero, List.set_cons_succ]
 iterate 2 (refine Fam.pure_ (by rfl) (by rfl) rfl (fun K hK => ?_); go_big_quiet_op; refine hK _ ?_; clear hK K)
 refine Fam.read_ ?_ (by rfl) (by rfl) (fun m' _ u hu => ?_) ?_
 rotate_left
 · obtain rfl : m' = 0 := by have := Fam.inR_le ‹_› 0 (by decide) (by kernel_rfl); omega
   have hu' : RS w v5 u := hu
   have c0 := hu'.at p (by rw [HV5.out]; omega)
   clear hu'; clear hu; go_simp; rfl
 simp only [Act.put, List.setIfInBounds_toArray, List.set_cons_zero, List.set_cons_succ]
 refine Fam.pure_ (by rfl) (by rfl) rfl (fun K hK => ?_)
 go_big_quiet_op
 refine hK _ ?_
 clear hK K
 refine Fam.call_ (.int .u32 (r8 (xr (v5.getD s 0) (v5.getD p 0)))) 138 ?_ (by rfl) (by rfl) (fun w => ?_) (fun m' _ u hu => ?_) ?_
 rotate_left
 · go_simp; rfl
 · exact (turn8 _ u).mono fun e u' ⟨he, hw⟩ => ⟨he, hw ▸ hu⟩
 simp only [Act.put, List.setIfInBounds_toArray, List.set_cons_zero, List.set_cons_succ]
 refine Fam.pure_ (by rfl) (by rfl) rfl (fun K hK => ?_)
 go_big_quiet_op
 refine hK _ ?_
 clear hK K
 refine Fam.store_ (by rfl) (by rfl) (fun u hu => ?_) ?_
 · have hu' : RS w v5 u := hu
   have c0 := hu'.at s (by rw [HV5.out]; omega)
   have f0 := hu'.1.frozen s
   have g0 := hu'.set s (r8 (xr (v5.getD s 0) (v5.getD p 0)))
   rw [HX6.out] at g0
   refine ⟨_, ?_, g0⟩
   clear g0 hu hu'
   unfold xr
   go_simp
 try simp only [Act.put, List.setIfInBounds_toArray, List.set_cons_zero, List.set_cons_succ]
 refine Fam.nil_ ?_
 rintro U6 hS
 replace hS : RS w v6 U6 := hS
 go_wp2_with fail
 obtain ⟨v7, hv7⟩ : ∃ l, l = sSum r s v6 := ⟨_, rfl⟩
 have HX7 : Hid (v6.set r ((v6.getD r 0 + v6.getD s 0) % 4294967296) = v7) := Lib.hid hv7.symm
 have HV7 : Hid (v7.length = 16) := Lib.hid (by rw [hv7, sSum_length, HV6.out])
 rw [← hv7] at HE
 clear hv7
 refine Fam.wp_region_fam [9] (fun m u => RS w (two v6 v7 m) u) (by kernel_rfl) (by kernel_rfl) hS.drew ?_
 iterate 3 (refine Fam.pure_ (by rfl) (by rfl) rfl (fun K hK => ?_); go_big_quiet_op; refine hK _ ?_; clear hK K)
 refine Fam.read_ ?_ (by rfl) (by rfl) (fun m' _ u hu => ?_) ?_
 rotate_left
 · obtain rfl : m' = 0 := by have := Fam.inR_le ‹_› 0 (by decide) (by kernel_rfl); omega
   have hu' : RS w v6 u := hu
   have c0 := hu'.at r (by rw [HV6.out]; omega)
   clear hu'; clear hu; go_simp; rfl
 simp only [Act.put, List.setIfInBounds_toArray, List.set_cons_zero, List.set_cons_succ]
 iterate 2 (refine Fam.pure_ (by rfl) (by rfl) rfl (fun K hK => ?_); go_big_quiet_op; refine hK _ ?_; clear hK K)
 refine Fam.read_ ?_ (by rfl) (by rfl) (fun m' _ u hu => ?_) ?_
 rotate_left
 · obtain rfl : m' = 0 := by have := Fam.inR_le ‹_› 0 (by decide) (by kernel_rfl); omega
   have hu' : RS w v6 u := hu
   have c0 := hu'.at s (by rw [HV6.out]; omega)
   clear hu'; clear hu; go_simp; rfl
 simp only [Act.put, List.setIfInBounds_toArray, List.set_cons_zero, List.set_cons_succ]
 iterate 2 (refine Fam.pure_ (by rfl) (by rfl) rfl (fun K hK => ?_); go_big_quiet_op; refine hK _ ?_; clear hK K)
 refine Fam.store_ (by rfl) (by rfl) (fun u hu => ?_) ?_
 · have hu' : RS w v6 u := hu
   have c0 := hu'.at r (by rw [HV6.out]; omega)
   have f0 := hu'.1.frozen r
   have g0 := hu'.set r ((v6.getD r 0 + v6.getD s 0) % 4294967296)
   rw [HX7.out] at g0
   refine ⟨_, ?_, g0⟩
   clear g0 hu hu'
   go_simp
 try simp only [Act.put, List.setIfInBounds_toArray, List.set_cons_zero, List.set_cons_succ]
 refine Fam.nil_ ?_
 rintro U7 hS
 replace hS : RS w v7 U7 := hS
 go_wp2_with fail
 obtain ⟨v8, hv8⟩ : ∃ l, l = sXor r7 q r v7 := ⟨_, rfl⟩
 have HX8 : Hid (v7.set q (r7 (xr (v7.getD q 0) (v7.getD r 0))) = v8) := Lib.hid hv8.symm
 have HV8 : Hid (v8.length = 16) := Lib.hid (by rw [hv8, sXor_length, HV7.out])
 rw [← hv8] at HE
 clear hv8
 refine Fam.wp_region_fam [10] (fun m u => RS w (two v7 v8 m) u) (by kernel_rfl) (by kernel_rfl) hS.drew ?_
 iterate 3 (refine Fam.pure_ (by rfl) (by rfl) rfl (fun K hK => ?_); go_big_quiet_op; refine hK _ ?_; clear hK K)
 refine Fam.read_ ?_ (by rfl) (by rfl) (fun m' _ u hu => ?_) ?_
 rotate_left
 · obtain rfl : m' = 0 := by have := Fam.inR_le ‹_› 0 (by decide) (by kernel_rfl); omega
   have hu' : RS w v7 u := hu
   have c0 := hu'.at q (by rw [HV7.out]; omega)
   clear hu'; clear hu; go_simp; rfl
 simp only [Act.put, List.setIfInBounds_toArray, List.set_cons_zero, List.set_cons_succ]
 iterate 2 (refine Fam.pure_ (by rfl) (by rfl) rfl (fun K hK => ?_); go_big_quiet_op; refine hK _ ?_; clear hK K)
 refine Fam.read_ ?_ (by rfl) (by rfl) (fun m' _ u hu => ?_) ?_
 rotate_left
 · obtain rfl : m' = 0 := by have := Fam.inR_le ‹_› 0 (by decide) (by kernel_rfl); omega
   have hu' : RS w v7 u := hu
   have c0 := hu'.at r (by rw [HV7.out]; omega)
   clear hu'; clear hu; go_simp; rfl
 simp only [Act.put, List.setIfInBounds_toArray, List.set_cons_zero, List.set_cons_succ]
 refine Fam.pure_ (by rfl) (by rfl) rfl (fun K hK => ?_)
 go_big_quiet_op
 refine hK _ ?_
 clear hK K
 refine Fam.call_ (.int .u32 (r7 (xr (v7.getD q 0) (v7.getD r 0)))) 138 ?_ (by rfl) (by rfl) (fun w => ?_) (fun m' _ u hu => ?_) ?_
 rotate_left
 · go_simp; rfl
 · exact (turn7 _ u).mono fun e u' ⟨he, hw⟩ => ⟨he, hw ▸ hu⟩
 simp only [Act.put, List.setIfInBounds_toArray, List.set_cons_zero, List.set_cons_succ]
 refine Fam.pure_ (by rfl) (by rfl) rfl (fun K hK => ?_)
 go_big_quiet_op
 refine hK _ ?_
 clear hK K
 refine Fam.store_ (by rfl) (by rfl) (fun u hu => ?_) ?_
 · have hu' : RS w v7 u := hu
   have c0 := hu'.at q (by rw [HV7.out]; omega)
   have f0 := hu'.1.frozen q
   have g0 := hu'.set q (r7 (xr (v7.getD q 0) (v7.getD r 0)))
   rw [HX8.out] at g0
   refine ⟨_, ?_, g0⟩
   clear g0 hu hu'
   unfold xr
   go_simp
 try simp only [Act.put, List.setIfInBounds_toArray, List.set_cons_zero, List.set_cons_succ]
 refine Fam.nil_ ?_
 rintro U8 hS
 replace hS : RS w v8 U8 := hS
 have hsz : (Tryz.prog.info? 159).map (·.size) = some (u32s v8).toArray.size := by rw [size16, List.size_toArray, u32s_length, HV8.out]
 go_wp2_with (first | (refine wpList_load_row rfl 159 (.tmp 7) rfl w.heap.size rfl 159 (u32s v8).toArray (0, 0) _ hS.1 Tryz.underlying159 rfl hsz ?_) | (refine wpList_store_row rfl 159 (.tmp 14) (.tmp 95) rfl (w.heap.size + 1) (u32s v8).toArray rfl rfl 159 (u32s (List.replicate 16 0)).toArray hS.2.1 hsz (by rw [List.size_toArray, List.size_toArray, u32s_length, u32s_length, HV8.out]; rfl) (by rw [Array.all_eq_true_iff_forall_mem]; intro z hz; exact u32s_one _ z (by simpa using hz)) ?_))
 refine bodyPost_ret (v := .agg (u32s v8).toArray) (results_cell_row Tryz.results118 _ _ (w.heap.size + 1) 159 _ _ _ rfl (hS.2.1.put (u32s v8)) Tryz.underlying159 rfl hsz) rfl ⟨by rw [HE.out], below_setRow hS.2.2 (by omega) _⟩
end Go.Proofs.YtjlpjpjodhkpdaaGreatDoor
namespace Go.Proofs.YtjlpjpjodhkpdaaGreatDoor
open Go.RowKit
def figsL (r : Nat) : List UInt8 := (orders.getD r []).map fun n => digs.data.getD n 0
def figs (r : Nat) : ByteArray := ⟨(figsL r).toArray⟩
theorem figs_size : ∀ r, r < 10 → (figs r).size = 16 := by decide
theorem figs_at : ∀ r, r < 10 → ∀ i, i < 16 → (figs r).data.getD i 0 = digs.data.getD (od r i) 0 := by decide +kernel
theorem order_any (r : Nat) (hr : r < 10) (w : World) :
 Calls Tryz.prog 116 #[.int .i64 r] w fun e w' => e = .returned (.string (figs r)) ∧ Below w.heap.size w w' := by
 rcases (show r = 0 ∨ r = 1 ∨ r = 2 ∨ r = 3 ∨ r = 4 ∨ r = 5 ∨ r = 6 ∨ r = 7 ∨ r = 8 ∨ r = 9 by omega) with rfl | rfl | rfl | rfl | rfl | rfl | rfl | rfl | rfl | rfl
 all_goals
  go_enter Tryz.func116, Tryz.ntmps116
  go_wp2
  go_ret
  exact ⟨rfl, (Below.refl _ _).alloc (Nat.le_refl _) _⟩
theorem figure_any (n : Nat) (hn : n < 16) (c : Int) (hc : c = ((digs.data.getD n 0).toNat : Int)) (w : World) :
 Calls Tryz.prog 117 #[.int .u8 c] w fun e w' => e = .returned (.int .i64 n) ∧ w = w' := by
 subst hc
 rcases (show n = 0 ∨ n = 1 ∨ n = 2 ∨ n = 3 ∨ n = 4 ∨ n = 5 ∨ n = 6 ∨ n = 7 ∨ n = 8 ∨ n = 9 ∨ n = 10 ∨ n = 11 ∨ n = 12 ∨ n = 13 ∨ n = 14 ∨ n = 15 by omega) with rfl | rfl | rfl | rfl | rfl | rfl | rfl | rfl | rfl | rfl | rfl | rfl | rfl | rfl | rfl | rfl
 all_goals
  go_enter Tryz.func117, Tryz.ntmps117
  go_wp2
  go_ret
  exact ⟨rfl, rfl⟩
end Go.Proofs.YtjlpjpjodhkpdaaGreatDoor
namespace Go.Proofs.YtjlpjpjodhkpdaaGreatDoor
open Go.RowKit
theorem storeOne (P : Program) (g n : Nat) (w : World) (z c : Value) (hc : w.cell? ⟨g, n, none⟩ = some c) (hf : w.frozen? ⟨g, n, none⟩ = false) (h1 : z.oneCell' = true) :
 (storeCells ⟨g, n, none⟩ [z] 0).run P w = .ok () (w.setCell ⟨g, n, none⟩ z) := by
 have ha : (⟨g, n, none⟩ : Addr).add 0 = ⟨g, n, none⟩ := by simp [Addr.add]
 simp only [storeCells, Sem.run_bind]
 rw [ha, run_store P w _ z _ h1, hc]
 simp [hf]
theorem append_in (P : Program) (w : World) (t ty e : TypeId) (i : TypeInfo) (ht : P.underlying t = some (.slice e)) (hi : P.info? e = some i) (hs : i.size = 1)
 (g n cap : Nat) (c : Value) (hc : w.cell? ⟨g, n, none⟩ = some c) (hf : w.frozen? ⟨g, n, none⟩ = false) (hroom : n + 1 ≤ cap)
 (a : Addr) (c2 : Nat) (z : Value) (hz : w.cell? a = some z) (ha0 : a.add 0 = a) (h1 : z.oneCell' = true) :
 (Builtin.append_ #[t, t] ty #[.slice (some ⟨g, 0, none⟩) n cap, .slice (some a) 1 c2]).run P w =
   .ok (.slice (some ⟨g, 0, none⟩) (n + 1) cap) (w.setCell ⟨g, n, none⟩ z) := by
 have hfc := run_firstCells_some (P := P) w i.size 1 a 1 c2 [z] (by simp [hs]) (fun j u hj => by
  cases j with
  | zero => simp at hj; subst hj; rw [ha0]; exact hz
  | succ j => simp at hj)
 rw [hs] at hfc
 have hst := storeOne P g n w z c hc hf h1
 simp [Builtin.append_, run_underlying ht, sizeOf, typeInfo, hi, hs, Builtin.lenOf, hroom, hfc, Addr.add_lit, hst]
def PadAt (e : TypeId) (w : World) (base : Nat) (v : Value) (l : List UInt8) : Prop :=
 (w.ownsRow base e 1 v l.length (Lib.byteCells l)) ∨
 ∃ g cap, base ≤ g ∧ v = .slice (some ⟨g, 0, none⟩) l.length cap ∧ l.length ≤ cap ∧ cap ≤ maxLen ∧ w.heap[g]? = some (.cells (Lib.byteCells (l ++ List.replicate (cap - l.length) 0)).toArray e (cap, cap + 1))
section
variable {P : Program} {e : TypeId} {w : World} {base : Nat} {v : Value} {l : List UInt8}
theorem bcells_at (l : List UInt8) (j : Nat) (u : Value) (h : (Lib.byteCells l)[j]? = some u) : ∃ b, l[j]? = some b ∧ u = .int .u8 b.toNat := by
 unfold Lib.byteCells at h
 rw [List.getElem?_map] at h
 cases hj : l[j]? with
 | none => rw [hj] at h; cases h
 | some b => rw [hj] at h; exact ⟨b, rfl, (Option.some.inj h).symm⟩
theorem bcells_get (l : List UInt8) (j : Nat) : (Lib.byteCells l)[j]? = (l[j]?).map fun b => Value.int .u8 b.toNat := by
 unfold Lib.byteCells
 rw [List.getElem?_map]
theorem PadAt.slice (h : PadAt e w base v l) : ∃ p cap, v = .slice p l.length cap := by
 rcases h with h | ⟨g, cap, _, rfl, _⟩
 · rcases h.2 with ⟨rfl, hn⟩ | ⟨g, cap, cur, rfl, _⟩
   · exact ⟨none, 0, by rw [hn]⟩
   · exact ⟨_, _, rfl⟩
 · exact ⟨_, _, rfl⟩
theorem PadAt.alloc (h : PadAt e w base v l) (o : Obj) : PadAt e (w.alloc o) base v l := by
 rcases h with h | ⟨g, cap, hb, hv, h1, h2, hg⟩
 · exact .inl (h.alloc o)
 · refine .inr ⟨g, cap, hb, hv, h1, h2, ?_⟩
   rw [Below.heap_alloc w o g (Array.getElem?_eq_some_iff.1 hg).1]
   exact hg
theorem PadAt.cellAt (h : PadAt e w base v l) {g cap : Nat} (hv : v = .slice (some ⟨g, 0, none⟩) l.length cap) : ∀ j (hj : j < l.length), w.cell? ((⟨g, 0, none⟩ : Addr).add j) = some (.int .u8 (l[j].toNat : Int)) := by
 intro j hj
 rcases h with h | ⟨g', cap', _, rfl, h1, _, hg⟩
 · refine h.cells (g := g) (by rw [hv]; rfl) j _ ?_
   rw [bcells_get, List.getElem?_eq_getElem hj]
   rfl
 · injection hv with e1
   injection e1 with e1
   injection e1 with e1
   subst e1
   have hadd : (⟨g', 0, none⟩ : Addr).add j = ⟨g', j, none⟩ := by unfold Addr.add; split <;> simp_all
   rw [hadd, cell_of_row w g' j _ e _ hg]
   show (Lib.byteCells _).toArray[j]? = _
   rw [List.getElem?_toArray, bcells_get, List.getElem?_append_left hj, List.getElem?_eq_getElem hj]
   rfl
theorem PadAt.own (h : PadAt e w base v l) {g : Nat} (hg : v.ownBlock = some g) : base ≤ g := by
 rcases h with h | ⟨g', cap, hb, rfl, _⟩
 · exact (h.lt g hg).1
 · simp [Value.ownBlock] at hg
   omega
theorem PadAt.addr {p : Option Addr} {n cap : Nat} (h : PadAt e w base (.slice p n cap) l) (hl : 0 < l.length) (hn : n = l.length) : ∃ g, p = some ⟨g, 0, none⟩ := by
 rcases h with h | ⟨g', cap', hb, h0, _⟩
 · rcases h.2 with ⟨_, h0⟩ | ⟨g', cap', cur, h0, _⟩
   · omega
   · injection h0 with h0
     exact ⟨g', h0⟩
 · injection h0 with h0
   exact ⟨g', h0⟩
theorem pad_step (t ty : TypeId) (i : TypeInfo) (ht : P.underlying t = some (.slice e)) (hi : P.info? e = some i) (hz : i.zero = some (.int .u8 0)) (hs : i.size = 1) (hby : i.bytes = 1)
 (h : PadAt e w base v l) (a : Addr) (ha0 : a.add 0 = a) (hc : w.cell? a = some (.int .u8 0)) (hl : l.length + 1 ≤ 140737488355328) (hbase : base ≤ w.heap.size) :
 ∃ v' w', (Builtin.append_ #[t, t] ty #[v, .slice (some a) 1 1]).run P w = .ok v' w' ∧ PadAt e w' base v' (l ++ [0]) ∧ w.grownBy w' v.ownBlock := by
 have hnews : ∀ j u, ([Value.int .u8 0])[j]? = some u → w.cell? (a.add j) = some u := fun j u hj => by
  cases j with
  | zero => simp at hj; subst hj; rw [ha0]; exact hc
  | succ j => simp at hj
 have e1 : Lib.byteCells (l ++ [0]) = Lib.byteCells l ++ [.int .u8 0] := by simp [Lib.byteCells]
 have hmx : l.length + 1 ≤ maxLen := by unfold maxLen; omega
 rcases h with h | ⟨g, cap, hb, rfl, h1, h2, hg⟩
 · obtain ⟨v', w', r1, r2, r3, _⟩ := run_append_own (P := P) w base t ty e i (.int .u8 0) 1 1 ht hi hz hs hby rfl (by decide) v l.length _ h a 1 1 [.int .u8 0] rfl hnews (by intro u hu; simp at hu; subst hu; rfl) hmx (by omega) hbase
   refine ⟨v', w', r1, .inl ?_, r3⟩
   rw [e1, List.length_append]
   exact r2
 · by_cases hroom : l.length + 1 ≤ cap
   · have hcell : w.cell? ⟨g, l.length, none⟩ = some (.int .u8 0) := by
      rw [cell_of_row w g _ _ e _ hg]
      show (Lib.byteCells _).toArray[l.length]? = _
      rw [List.getElem?_toArray, bcells_get, List.getElem?_append_right (Nat.le_refl _), Nat.sub_self, List.getElem?_replicate, if_pos (by omega)]
      rfl
     have hfr : w.frozen? ⟨g, l.length, none⟩ = false := by
      unfold World.frozen?
      rw [hg]
      simp
      omega
     refine ⟨_, _, append_in P w t ty e i ht hi hs g l.length cap _ hcell hfr hroom a 1 _ hc ha0 rfl, .inr ⟨g, cap, hb, by simp, by simp; omega, h2, ?_⟩, ?_⟩
     · have h3 := setCell_eq_setRow w g l.length _ e (cap, cap + 1) (.int .u8 0) hg
       rw [h3, setRow_heap w g _ _ e _ hg]
       refine congrArg (fun c => some (Obj.cells c e (cap, cap + 1))) ?_
       rw [List.setIfInBounds_toArray]
       congr 1
       have e2 : cap - l.length = (cap - (l ++ [0]).length) + 1 := by simp; omega
       rw [e2, List.replicate_succ, List.append_assoc]
       show (Lib.byteCells _).set _ _ = _
       apply List.ext_getElem?
       intro j
       rw [List.getElem?_set]
       by_cases hj : l.length = j
       · subst hj
         rw [if_pos rfl, Lib.byteCells_length, if_pos (by simp), bcells_get, List.getElem?_append_right (Nat.le_refl _), Nat.sub_self]
         rfl
       · rw [if_neg hj]
         rfl
     · exact ⟨rfl, rfl, rfl, by simp, fun k hk hne => Below.heap_setCell w _ _ k (by simpa [Value.ownBlock] using hne)⟩
   · have hcap : cap = l.length := by omega
     subst hcap
     have hmark : PadAt e w base (.slice (some ⟨g, 0, none⟩) l.length l.length) l := .inr ⟨g, l.length, hb, rfl, h1, h2, hg⟩
     have holds : ∀ j u, (Lib.byteCells l)[j]? = some u → w.cell? ((⟨g, 0, none⟩ : Addr).add j) = some u := fun j u hu => by
      obtain ⟨b, hb2, rfl⟩ := bcells_at l j u hu
      obtain ⟨hj, rfl⟩ := List.getElem?_eq_some_iff.1 hb2
      exact hmark.cellAt rfl j hj
     have hr := run_append_grow (P := P) w t ty e i (.int .u8 0) ht hi hz ⟨g, 0, none⟩ l.length l.length (Lib.byteCells l) (by rw [Lib.byteCells_length, hs, Nat.mul_one]) holds a 1 1 [.int .u8 0] (by rw [hs]; rfl) hnews (by omega) (by omega) (growslice_fits (by omega) (by rw [hby]; omega))
     have hge := grownCap_ge w (l.length + 1) l.length e
     have hcm2 : grownCap w (l.length + 1) l.length e ≤ maxLen := grownCap_le_maxLen w (l.length + 1) l.length e hmx
     refine ⟨_, _, hr, .inl ⟨by rw [Lib.byteCells_length, Nat.mul_one], .inr ⟨w.heap.size, _, _, by rw [List.length_append]; rfl, hbase, heap_alloc_new w.drew _, by rw [List.length_append]; exact hge, hcm2, ?_, ?_⟩⟩, ⟨rfl, rfl, rfl, by simp, fun k hk _ => Below.heap_alloc w.drew _ k hk⟩⟩
     · simp [size_zeroCells, Lib.byteCells_length, Value.cells]
       omega
     · rw [e1]
       simp only [Array.toList_append, List.append_assoc, Nat.mul_one]
       rw [← List.append_assoc]
       exact List.take_left' (by simp [Lib.byteCells_length])
end
end Go.Proofs.YtjlpjpjodhkpdaaGreatDoor
namespace Go.Proofs.YtjlpjpjodhkpdaaGreatDoor
open Go.RowKit
def padL (s : ByteArray) (k : Nat) : List UInt8 := s.data.toList ++ List.replicate k 0
theorem padL_length (s : ByteArray) (k : Nat) : (padL s k).length = s.size + k := by
 simp [padL]
theorem padL_next (s : ByteArray) (k : Nat) : padL s k ++ [0] = padL s (k + 1) := by
 unfold padL
 rw [List.append_assoc, List.replicate_succ']
theorem padL_all (s : ByteArray) (hs : s.size ≤ 64) : (⟨(padL s (64 - s.size)).toArray⟩ : ByteArray) = padB s := by
 have hr : ∀ n, Lib.repeatL [(0 : UInt8)] n = List.replicate n 0 := by
  intro n
  induction n with
  | zero => rfl
  | succ n ih => simp [Lib.repeatL, ih, List.replicate_succ]
 unfold padL padB
 rw [hr]
 apply ByteArray.ext
 simp
theorem bytesRow_pad (s : ByteArray) (cap : Nat) : bytesRow s cap = (Lib.byteCells (s.data.toList ++ List.replicate (cap - s.data.toList.length) 0)).toArray := by
 unfold bytesRow Lib.byteCells
 apply Array.ext'
 simp
theorem wpList_append_pad {P : Program} {ops : Array Oper} {rest : List Oper} {o : Oper} {a : Act} {w : World} {Q : Exit → Act → World → Prop} (hgd : o.guard = none) (s x : Operand) (t : TypeId)
 (ho : o.op = .call { callee := .builtin .append, args := #[s, x], argTypes := #[t, t] }) (v v' : Value) (ad : Addr) (w' : World) (hs : a.eval s = v) (hx : a.eval x = .slice (some ad) 1 1)
 (hr : (Builtin.append_ #[t, t] o.type #[v, .slice (some ad) 1 1]).run P w = .ok v' w') (h : wpList P ops Q rest (a.put o.dst v') w') : wpList P ops Q (o :: rest) a w := by
 refine wpList_plain hgd fun K hK => ?_
 unfold Oper.wp execOp
 simp only [ho, resolve, invoke, builtin, Sem.run_bind, Sem.run_pure, Result.andThen_ok, List.map_toArray, List.map_cons, List.map_nil, hs, hx, hr]
 exact hK _ _ h
theorem pad_any (s : ByteArray) (hs : s.size ≤ 64) (w : World) :
 Calls Tryz.prog 88 #[.string s] w fun e w' => e = .returned (.string (padB s)) ∧ Below w.heap.size w w' := by
 have hcv := fun (u : World) => run_bytes_of_string (P := Tryz.prog) u 9 90 5 s Tryz.underlying9 Tryz.underlying90 Tryz.underlying5
 have hge := grownCap_ge w s.size 0 5
 have hmx : grownCap w s.size 0 5 ≤ maxLen := grownCap_le_maxLen w s.size 0 5 (by unfold maxLen; omega)
 go_enter Tryz.func88, Tryz.ntmps88
 go_wp2_with fail
 have hP : PadAt 5 (w.alloc (.cells (bytesRow s (grownCap w s.size 0 5)) 5 ((bytesRow s (grownCap w s.size 0 5)).size, (bytesRow s (grownCap w s.size 0 5)).size + 1))).drew w.heap.size (.slice (some ⟨w.heap.size, 0, none⟩) s.size (grownCap w s.size 0 5)) (padL s 0) := by
  have hsz : (bytesRow s (grownCap w s.size 0 5)).size = grownCap w s.size 0 5 := by
   unfold bytesRow
   simp
   show s.size + _ = _
   omega
  have e0 : (padL s 0).length = s.size := padL_length s 0
  rw [hsz]
  refine .inr ⟨w.heap.size, grownCap w s.size 0 5, Nat.le_refl _, by rw [e0], by rw [e0]; exact hge, hmx, ?_⟩
  rw [bytesRow_pad]
  have e1 : padL s 0 = s.data.toList := by simp [padL]
  rw [e1]
  exact heap_alloc_new w _
 have hB := ((Below.refl w.heap.size w).alloc (Nat.le_refl _) (.cells (bytesRow s (grownCap w s.size 0 5)) 5 ((bytesRow s (grownCap w s.size 0 5)).size, (bytesRow s (grownCap w s.size 0 5)).size + 1))).drew
 generalize World.drew _ = W at *
 clear hcv hge hmx
 generalize grownCap w s.size 0 5 = cap0 at *
 go_loopw [3] (fun x u => ∃ k : Nat, s.size + k ≤ 64 ∧ PadAt 5 u w.heap.size x (padL s k) ∧ Below w.heap.size w u) (fun x _ => match x with | .slice _ n _ => 64 - n | _ => 0)
 case atStart => exact ⟨0, by omega, hP, hB⟩
 case round =>
  clear hP hB
  obtain ⟨k, hk, hP, hB⟩ := hrel
  obtain ⟨p, cap, rfl⟩ := hP.slice
  rw [padL_length] at hP ⊢
  by_cases hlt : s.size + k < 64
  · obtain ⟨i0, hi, hz0, hz1, hz2⟩ := info_parts infoByte
    have dk : decide (((s.size + k : Nat) : Int) < 64) = true := by simp; omega
    go_wp2_with (at_builtin; refine Pause'.out ?_)
    have hP2 := hP.alloc (.cells #[.int .u8 0] 5)
    have hB2 := hB.alloc hB.size (.cells #[.int .u8 0] 5)
    have hcell : (wr.alloc (.cells #[.int .u8 0] 5)).cell? ⟨wr.heap.size, 0, none⟩ = some (.int .u8 0) := cell_of_row _ _ 0 _ 5 _ (heap_alloc_new wr _)
    have hown : ∀ g, (Value.slice p (s.size + k) cap).ownBlock = some g → w.heap.size ≤ g := fun g hg => hP.own hg
    generalize World.alloc _ _ = W2 at *
    generalize wr.heap.size = g0 at *
    obtain ⟨v', w', hr, hP3, hgr⟩ := pad_step (P := Tryz.prog) 90 90 i0 Tryz.underlying90 hi hz0 hz1 hz2 hP2 ⟨g0, 0, none⟩ rfl hcell (by rw [padL_length]; omega) hB2.size
    rw [padL_next] at hP3
    have hB3 := hB2.grown hgr hB2.size hown
    constructor
    refine wpList_append_pad rfl (.tmp 9) (.tmp 10) 90 rfl (.slice p (s.size + k) cap) v' ⟨g0, 0, none⟩ w' rfl rfl hr ?_
    obtain ⟨p', cap', rfl⟩ := hP3.slice
    rw [padL_length] at hP3 ⊢
    clear hP hP2 hB hB2 hcell hown hgr hr
    go_wp2
    go_roundw
    case rel => exact ⟨k + 1, by omega, hP3, hB3⟩
    case measure => first | (simp; done) | (simp; omega) | omega
  · have h64 : k = 64 - s.size := by omega
    subst h64
    have e64 : s.size + (64 - s.size) = 64 := by omega
    have hback : (convert 90 9 (.slice p 64 cap)).run Tryz.prog wr = .ok (.string (padB s)) wr := by
     rw [← padL_all s hs]
     have hl := padL_length s (64 - s.size)
     rw [e64] at hl hP
     obtain ⟨g, rfl⟩ := hP.addr (by rw [hl]; decide) (by rw [hl])
     have := run_convert_bytes_back (P := Tryz.prog) wr 90 9 5 ⟨g, 0, none⟩ cap (padL s (64 - s.size)) Tryz.underlying90 Tryz.underlying5 Tryz.underlying9 (hP.cellAt (by rw [hl]))
     rw [hl] at this
     exact this
    clear hP
    go_wp2
    go_ret
    exact ⟨rfl, hB⟩
end Go.Proofs.YtjlpjpjodhkpdaaGreatDoor
