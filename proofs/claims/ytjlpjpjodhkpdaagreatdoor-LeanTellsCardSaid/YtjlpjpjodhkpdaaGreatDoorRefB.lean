/- cartoucheref02.Block: it makes blockL, as blake.Block does. · cartoucheref02.all. · cartoucheref02.Sum. · blake.Sum and cartoucheref02.Sum in the form that the print takes. · cartoucheref02.Keyed. · cartoucheref02.Keyed in the form that the print takes (where blake.Keyed is not reached). -/
import Derived.Test.YtjlpjpjodhkpdaaGreatDoorRefA
import Derived.StillTailTactics
import Derived.Test.YtjlpjpjodhkpdaaGreatDoorSumM
set_option maxRecDepth 100000
set_option maxHeartbeats 8000000
set_option linter.unusedVariables false
set_option linter.unusedSimpArgs false
namespace Go.Proofs.YtjlpjpjodhkpdaaGreatDoor
open Go.RowKit
theorem byteAt (F : ByteArray) (i : Nat) (h : i < F.size) : F[i]'h = F.data.getD i 0 := by
 have h2 : i < F.data.size := h
 rw [Array.getD_eq_getD_getElem?, Array.getElem?_eq_getElem h2]
 rfl
theorem xr_comm (x y : Int) : xr x y = xr y x := by
 simp only [xr, bits, BitVec.xor_comm]
def RB (w : World) (h m v : List Int) (u : World) : Prop :=
 RowIs u w.heap.size 95 (u32s h) ∧ RowIs u (w.heap.size + 1) 95 (u32s [0, 0, 0, 0, 0, 0, 0, 0]) ∧ RowIs u (w.heap.size + 1 + 1) 159 (u32s m) ∧ RowIs u (w.heap.size + 1 + 1 + 1) 94 (u32s begins) ∧ RowIs u (w.heap.size + 1 + 1 + 1 + 1) 159 (u32s v) ∧ Below w.heap.size w u
section
variable {w u : World} {h m v : List Int}
theorem RB.drew (b : RB w h m v u) : RB w h m v u.drew := ⟨b.1, b.2.1, b.2.2.1, b.2.2.2.1, b.2.2.2.2.1, b.2.2.2.2.2.drew⟩
theorem RB.below {u' : World} (b : RB w h m v u) (hb : Below u.heap.size u u') : RB w h m v u' :=
 ⟨b.1.below hb, b.2.1.below hb, b.2.2.1.below hb, b.2.2.2.1.below hb, b.2.2.2.2.1.below hb, b.2.2.2.2.2.trans (hb.mono b.2.2.2.2.2.size)⟩
theorem RB.alloc (b : RB w h m v u) (o : Obj) : RB w h m v (u.alloc o) := b.below ((Below.refl _ _).alloc (Nat.le_refl _) o)
theorem RB.setV (b : RB w h m v u) (i : Nat) (x : Int) : RB w h m (v.set i x) (u.setCell ⟨w.heap.size + 1 + 1 + 1 + 1, i, none⟩ (.int .u32 x)) := by
 obtain ⟨q0, q1, q2, q3, q4, q5⟩ := b
 have e := q4.set i (.int .u32 x)
 rw [u32s_set] at e
 exact ⟨q0.other (by show _ ≠ w.heap.size + 1 + 1 + 1 + 1; omega) _, q1.other (by show _ ≠ w.heap.size + 1 + 1 + 1 + 1; omega) _, q2.other (by show _ ≠ w.heap.size + 1 + 1 + 1 + 1; omega) _, q3.other (by show _ ≠ w.heap.size + 1 + 1 + 1 + 1; omega) _, e, q5.setCell (by show _ ≤ w.heap.size + 1 + 1 + 1 + 1; omega) _⟩
theorem RB.setH (b : RB w h m v u) (i : Nat) (x : Int) : RB w (h.set i x) m v (u.setCell ⟨w.heap.size, i, none⟩ (.int .u32 x)) := by
 obtain ⟨q0, q1, q2, q3, q4, q5⟩ := b
 have e := q0.set i (.int .u32 x)
 rw [u32s_set] at e
 exact ⟨e, q1.other (by show _ ≠ w.heap.size; omega) _, q2.other (by show _ ≠ w.heap.size; omega) _, q3.other (by show _ ≠ w.heap.size; omega) _, q4.other (by show _ ≠ w.heap.size; omega) _, q5.setCell (Nat.le_refl _) _⟩
theorem RB.setO (b : RB w h m v u) {g : Nat} (hg : w.heap.size + 1 + 1 + 1 + 1 < g) (i : Nat) (x : Value) : RB w h m v (u.setCell ⟨g, i, none⟩ x) := by
 obtain ⟨q0, q1, q2, q3, q4, q5⟩ := b
 exact ⟨q0.other (by show _ ≠ g; omega) _, q1.other (by show _ ≠ g; omega) _, q2.other (by show _ ≠ g; omega) _, q3.other (by show _ ≠ g; omega) _, q4.other (by show _ ≠ g; omega) _, q5.setCell (by show _ ≤ g; omega) _⟩
theorem RB.putV (b : RB w h m v u) (v' : List Int) : RB w h m v' (u.setRow (w.heap.size + 1 + 1 + 1 + 1) (u32s v').toArray) := by
 obtain ⟨q0, q1, q2, q3, q4, q5⟩ := b
 exact ⟨q0.putOther (by omega) _, q1.putOther (by omega) _, q2.putOther (by omega) _, q3.putOther (by omega) _, q4.put _, below_setRow q5 (by omega) _⟩
theorem RB.hcell (b : RB w h m v u) (i : Nat) (hi : i < h.length) : u.cell? ⟨w.heap.size, i, none⟩ = some (.int .u32 (h.getD i 0)) := b.1.cell (u32s_get h i hi)
theorem RB.mcell (b : RB w h m v u) (i : Nat) (hi : i < m.length) : u.cell? ⟨w.heap.size + 1 + 1, i, none⟩ = some (.int .u32 (m.getD i 0)) := b.2.2.1.cell (u32s_get m i hi)
theorem RB.fcell (b : RB w h m v u) (i : Nat) (hi : i < 8) : u.cell? ⟨w.heap.size + 1 + 1 + 1, i, none⟩ = some (.int .u32 (begins.getD i 0)) := b.2.2.2.1.cell (u32s_get begins i hi)
theorem RB.vcell (b : RB w h m v u) (i : Nat) (hi : i < v.length) : u.cell? ⟨w.heap.size + 1 + 1 + 1 + 1, i, none⟩ = some (.int .u32 (v.getD i 0)) := b.2.2.2.2.1.cell (u32s_get v i hi)
theorem RB.hfree (b : RB w h m v u) (i : Nat) : u.frozen? ⟨w.heap.size, i, none⟩ = false := b.1.frozen i
theorem RB.vfree (b : RB w h m v u) (i : Nat) : u.frozen? ⟨w.heap.size + 1 + 1 + 1 + 1, i, none⟩ = false := b.2.2.2.2.1.frozen i
end
def RM (w : World) (h m : List Int) (u : World) : Prop :=
 RowIs u w.heap.size 95 (u32s h) ∧ RowIs u (w.heap.size + 1) 95 (u32s [0, 0, 0, 0, 0, 0, 0, 0]) ∧ RowIs u (w.heap.size + 1 + 1) 159 (u32s m) ∧ Below w.heap.size w u ∧ u.heap.size = w.heap.size + 1 + 1 + 1
theorem RM.drew {w u : World} {h m : List Int} (b : RM w h m u) : RM w h m u.drew := ⟨b.1, b.2.1, b.2.2.1, b.2.2.2.1.drew, b.2.2.2.2⟩
theorem RM.set {w u : World} {h m : List Int} (b : RM w h m u) (i : Nat) (x : Int) : RM w h (m.set i x) (u.setCell ⟨w.heap.size + 1 + 1, i, none⟩ (.int .u32 x)) := by
 obtain ⟨q0, q1, q2, q3, q4⟩ := b
 have e := q2.set i (.int .u32 x)
 rw [u32s_set] at e
 exact ⟨q0.other (by show _ ≠ w.heap.size + 1 + 1; omega) _, q1.other (by show _ ≠ w.heap.size + 1 + 1; omega) _, e, q3.setCell (by show _ ≤ w.heap.size + 1 + 1; omega) _, by rw [World.size_setCell]; exact q4⟩
theorem szOf (l : List Int) (hl : l.length = 16) : (Tryz.prog.info? 159).map (·.size) = some (u32s l).toArray.size := by rw [size16, List.size_toArray, u32s_length, hl]
theorem szEq (a b : List Int) (ha : a.length = 16) (hb : b.length = 16) : (u32s a).toArray.size = (u32s b).toArray.size := by rw [List.size_toArray, List.size_toArray, u32s_length, u32s_length, ha, hb]
theorem oneAll (l : List Int) : (u32s l).toArray.all (·.oneCell') = true := by
 rw [Array.all_eq_true_iff_forall_mem]; intro z hz; exact u32s_one _ z (by simpa using hz)
theorem roundL8 (m : List Int) (r : Nat) (v : List Int) : roundL m r 8 v = mixAt m r 7 (mixAt m r 6 (mixAt m r 5 (mixAt m r 4 (mixAt m r 3 (mixAt m r 2 (mixAt m r 1 (mixAt m r 0 v))))))) := by
 simp only [roundL]
theorem mixAt_0 (m : List Int) (r : Nat) (v : List Int) : mixAt m r 0 v = mixL 0 4 8 12 (m.getD (od r 0) 0) (m.getD (od r 1) 0) v := rfl
theorem rmix_0 (v : List Int) (hv : v.length = 16) (x y : Int) (w : World) : Calls Tryz.prog 118 #[.agg (u32s v).toArray, .int .i64 0, .int .i64 4, .int .i64 8, .int .i64 12, .int .u32 x, .int .u32 y] w fun e w' =>
 e = .returned (.agg (u32s (mixL 0 4 8 12 x y v)).toArray) ∧ Below w.heap.size w w' :=
 rmix_any 0 4 8 12 (by decide) (by decide) (by decide) (by decide) (by decide) (by decide) (by decide) (by decide) (by decide) (by decide) v hv x y w
theorem mixAt_1 (m : List Int) (r : Nat) (v : List Int) : mixAt m r 1 v = mixL 1 5 9 13 (m.getD (od r 2) 0) (m.getD (od r 3) 0) v := rfl
theorem rmix_1 (v : List Int) (hv : v.length = 16) (x y : Int) (w : World) : Calls Tryz.prog 118 #[.agg (u32s v).toArray, .int .i64 1, .int .i64 5, .int .i64 9, .int .i64 13, .int .u32 x, .int .u32 y] w fun e w' =>
 e = .returned (.agg (u32s (mixL 1 5 9 13 x y v)).toArray) ∧ Below w.heap.size w w' :=
 rmix_any 1 5 9 13 (by decide) (by decide) (by decide) (by decide) (by decide) (by decide) (by decide) (by decide) (by decide) (by decide) v hv x y w
theorem mixAt_2 (m : List Int) (r : Nat) (v : List Int) : mixAt m r 2 v = mixL 2 6 10 14 (m.getD (od r 4) 0) (m.getD (od r 5) 0) v := rfl
theorem rmix_2 (v : List Int) (hv : v.length = 16) (x y : Int) (w : World) : Calls Tryz.prog 118 #[.agg (u32s v).toArray, .int .i64 2, .int .i64 6, .int .i64 10, .int .i64 14, .int .u32 x, .int .u32 y] w fun e w' =>
 e = .returned (.agg (u32s (mixL 2 6 10 14 x y v)).toArray) ∧ Below w.heap.size w w' :=
 rmix_any 2 6 10 14 (by decide) (by decide) (by decide) (by decide) (by decide) (by decide) (by decide) (by decide) (by decide) (by decide) v hv x y w
theorem mixAt_3 (m : List Int) (r : Nat) (v : List Int) : mixAt m r 3 v = mixL 3 7 11 15 (m.getD (od r 6) 0) (m.getD (od r 7) 0) v := rfl
theorem rmix_3 (v : List Int) (hv : v.length = 16) (x y : Int) (w : World) : Calls Tryz.prog 118 #[.agg (u32s v).toArray, .int .i64 3, .int .i64 7, .int .i64 11, .int .i64 15, .int .u32 x, .int .u32 y] w fun e w' =>
 e = .returned (.agg (u32s (mixL 3 7 11 15 x y v)).toArray) ∧ Below w.heap.size w w' :=
 rmix_any 3 7 11 15 (by decide) (by decide) (by decide) (by decide) (by decide) (by decide) (by decide) (by decide) (by decide) (by decide) v hv x y w
theorem mixAt_4 (m : List Int) (r : Nat) (v : List Int) : mixAt m r 4 v = mixL 0 5 10 15 (m.getD (od r 8) 0) (m.getD (od r 9) 0) v := rfl
theorem rmix_4 (v : List Int) (hv : v.length = 16) (x y : Int) (w : World) : Calls Tryz.prog 118 #[.agg (u32s v).toArray, .int .i64 0, .int .i64 5, .int .i64 10, .int .i64 15, .int .u32 x, .int .u32 y] w fun e w' =>
 e = .returned (.agg (u32s (mixL 0 5 10 15 x y v)).toArray) ∧ Below w.heap.size w w' :=
 rmix_any 0 5 10 15 (by decide) (by decide) (by decide) (by decide) (by decide) (by decide) (by decide) (by decide) (by decide) (by decide) v hv x y w
theorem mixAt_5 (m : List Int) (r : Nat) (v : List Int) : mixAt m r 5 v = mixL 1 6 11 12 (m.getD (od r 10) 0) (m.getD (od r 11) 0) v := rfl
theorem rmix_5 (v : List Int) (hv : v.length = 16) (x y : Int) (w : World) : Calls Tryz.prog 118 #[.agg (u32s v).toArray, .int .i64 1, .int .i64 6, .int .i64 11, .int .i64 12, .int .u32 x, .int .u32 y] w fun e w' =>
 e = .returned (.agg (u32s (mixL 1 6 11 12 x y v)).toArray) ∧ Below w.heap.size w w' :=
 rmix_any 1 6 11 12 (by decide) (by decide) (by decide) (by decide) (by decide) (by decide) (by decide) (by decide) (by decide) (by decide) v hv x y w
theorem mixAt_6 (m : List Int) (r : Nat) (v : List Int) : mixAt m r 6 v = mixL 2 7 8 13 (m.getD (od r 12) 0) (m.getD (od r 13) 0) v := rfl
theorem rmix_6 (v : List Int) (hv : v.length = 16) (x y : Int) (w : World) : Calls Tryz.prog 118 #[.agg (u32s v).toArray, .int .i64 2, .int .i64 7, .int .i64 8, .int .i64 13, .int .u32 x, .int .u32 y] w fun e w' =>
 e = .returned (.agg (u32s (mixL 2 7 8 13 x y v)).toArray) ∧ Below w.heap.size w w' :=
 rmix_any 2 7 8 13 (by decide) (by decide) (by decide) (by decide) (by decide) (by decide) (by decide) (by decide) (by decide) (by decide) v hv x y w
theorem mixAt_7 (m : List Int) (r : Nat) (v : List Int) : mixAt m r 7 v = mixL 3 4 9 14 (m.getD (od r 14) 0) (m.getD (od r 15) 0) v := rfl
theorem rmix_7 (v : List Int) (hv : v.length = 16) (x y : Int) (w : World) : Calls Tryz.prog 118 #[.agg (u32s v).toArray, .int .i64 3, .int .i64 4, .int .i64 9, .int .i64 14, .int .u32 x, .int .u32 y] w fun e w' =>
 e = .returned (.agg (u32s (mixL 3 4 9 14 x y v)).toArray) ∧ Below w.heap.size w w' :=
 rmix_any 3 4 9 14 (by decide) (by decide) (by decide) (by decide) (by decide) (by decide) (by decide) (by decide) (by decide) (by decide) v hv x y w
def mtwo (s : ByteArray) (k : Nat) : Nat → List Int
 | 0 => mpart s k
 | _ + 1 => mpart s (k + 1)
def wpart (m : List Int) (r i : Nat) : List Int := (List.range i).map (fun j => m.getD (od r j) 0) ++ List.replicate (16 - i) 0
theorem wpart_length (m : List Int) (r i : Nat) (hi : i ≤ 16) : (wpart m r i).length = 16 := by simp [wpart]; omega
theorem wpart_next (m : List Int) (r i : Nat) (hi : i < 16) : (wpart m r i).set i (m.getD (od r i) 0) = wpart m r (i + 1) := by
 unfold wpart
 have h1 : 16 - i = (16 - (i + 1)) + 1 := by omega
 rw [h1, List.replicate_succ, List.set_append_right _ _ (by simp), List.range_succ]
 simp
theorem wpart_at (m : List Int) (r i : Nat) (hi : i < 16) : (wpart m r 16).getD i 0 = m.getD (od r i) 0 := by
 unfold wpart
 rw [List.getD_eq_getElem?_getD, List.getElem?_append_left (by simp; omega), List.getElem?_map, List.getElem?_range hi]
 rfl
theorem rblock_ok (h : List Int) (hh : h.length = 8) (s : ByteArray) (hs : s.size = 64) (t : Int) (ht : 0 ≤ t) (ht' : t < 18446744073709551616) (last : Bool) (w : World) :
 Calls Tryz.prog 87 #[.agg (u32s h).toArray, .string s, .int .u64 t, .bool last] w fun e w' =>
  e = .returned (.tuple #[.agg (u32s (blockL h s t last)).toArray, .int .i64 0]) ∧ Below w.heap.size w w' := by
 have HH := Lib.hid hh
 have HS := Lib.hid hs
 have b1 : ((s.size : Int) != 64) = false := by rw [hs]; rfl
 clear hh hs
 go_enter Tryz.func87, Tryz.ntmps87
 go_wp2
 have hM : RM w h (mpart s 0) (((w.alloc (.cells (u32s h).toArray 95)).alloc (.cells (u32s [0, 0, 0, 0, 0, 0, 0, 0]).toArray 95)).alloc (.cells (u32s (mpart s 0)).toArray 159)) := by
  refine ⟨?_, ?_, ?_, ?_, by rw [World.size_alloc, World.size_alloc, World.size_alloc]⟩
  · exact ((RowIs.new _ _ _).alloc _).alloc _
  · have := (RowIs.new (w.alloc (.cells (u32s h).toArray 95)) 95 (u32s [0, 0, 0, 0, 0, 0, 0, 0])).alloc (.cells (u32s (mpart s 0)).toArray 159)
    rw [World.size_alloc] at this; exact this
  · have := RowIs.new ((w.alloc (.cells (u32s h).toArray 95)).alloc (.cells (u32s [0, 0, 0, 0, 0, 0, 0, 0]).toArray 95)) 159 (u32s (mpart s 0))
    rw [World.size_alloc, World.size_alloc] at this; exact this
  · exact (((Below.refl _ _).alloc (Nat.le_refl _) _).alloc (by simp) _).alloc (by simp; omega) _
 have e0 : (u32s (mpart s 0)).toArray = #[.int .u32 0, .int .u32 0, .int .u32 0, .int .u32 0, .int .u32 0, .int .u32 0, .int .u32 0, .int .u32 0, .int .u32 0, .int .u32 0, .int .u32 0, .int .u32 0, .int .u32 0, .int .u32 0, .int .u32 0, .int .u32 0] := rfl
 have e2 : (u32s [0, 0, 0, 0, 0, 0, 0, 0]).toArray = #[.int .u32 0, .int .u32 0, .int .u32 0, .int .u32 0, .int .u32 0, .int .u32 0, .int .u32 0, .int .u32 0] := rfl
 rw [e0, e2] at hM
 clear e0 e2
 generalize World.alloc _ _ = W at *
 go_loopw [11] (fun c u => ∃ k : Nat, k ≤ 16 ∧ c = .int .i64 k ∧ RM w h (mpart s k) u) (fun c _ => 16 - (intOf c).toNat)
 case atStart => exact ⟨0, by omega, rfl, hM⟩
 case round =>
 clear hM
 obtain ⟨k, hk, rfl, hM⟩ := hrel
 by_cases hlt : k < 16
 · have hz := HS.out
   have i0 : (k : Int) < 16 := by omega
   have n0 : 4 * k < s.size := by omega
   have n1 : 4 * k + 1 < s.size := by omega
   have n2 : 4 * k + 2 < s.size := by omega
   have n3 : 4 * k + 3 < s.size := by omega
   have z0 : 0 ≤ 4 * (k : Int) := by omega
   have z1 : 0 ≤ 4 * (k : Int) + 1 := by omega
   have z2 : 0 ≤ 4 * (k : Int) + 2 := by omega
   have z3 : 0 ≤ 4 * (k : Int) + 3 := by omega
   have x0 : 4 * (k : Int) < (s.size : Int) := by omega
   have x1 : 4 * (k : Int) + 1 < (s.size : Int) := by omega
   have x2 : 4 * (k : Int) + 2 < (s.size : Int) := by omega
   have x3 : 4 * (k : Int) + 3 < (s.size : Int) := by omega
   clear hz
   go_wp2_with fail
   refine Fam.wp_region_fam [31] (fun m u => RM w h (mtwo s k m) u) (by kernel_rfl) (by kernel_rfl) hM.drew ?_
   iterate 31 (refine Fam.pure_ (by rfl) (by rfl) rfl (fun K hK => ?_); go_big_quiet_op; refine hK _ ?_; clear hK K)
   refine Fam.store_ (by rfl) (by rfl) (fun u hu => ?_) ?_
   · have hu' : RM w h (mpart s k) u := hu
     have c0 := hu'.2.2.1.cell (u32s_get _ k (by rw [mpart_length s k (by omega)]; omega))
     have f0 := hu'.2.2.1.frozen k
     have g0 := hu'.set k (word s k)
     rw [mpart_next s k hlt] at g0
     refine ⟨_, ?_, g0⟩
     clear g0 hu hu'
     go_simp
     refine congrArg _ (congrArg _ ?_)
     rw [byt_at s _ n0, byt_at s _ n1, byt_at s _ n2, byt_at s _ n3, word_eq]
     have y0 := byt_range s (4 * k)
     have y1 := byt_range s (4 * k + 1)
     have y2 := byt_range s (4 * k + 2)
     have y3 := byt_range s (4 * k + 3)
     omega
   try simp only [Act.put, List.setIfInBounds_toArray, List.set_cons_zero, List.set_cons_succ]
   refine Fam.nil_ ?_
   intro u hu
   replace hu : RM w h (mpart s (k + 1)) u := hu
   go_wp2
   go_roundw
   case rel => exact ⟨k + 1, by omega, by go_num, hu⟩
   case measure => first | (simp [intOf]; done) | (simp [intOf]; omega)
 obtain rfl : k = 16 := by omega
 rw [mpart_all] at hM
 go_wp2_with (go_at_call 86; refine (first_any _).mono ?_)
 rintro e u ⟨rfl, rfl⟩
 have hsz := hM.2.2.2.2
 have hB : RB w h (wordsL s) (vpart h 0) ((wr.alloc (.cells (u32s begins).toArray 94)).alloc (.cells (u32s (vpart h 0)).toArray 159)) := by
  obtain ⟨q0, q1, q2, q3, q4⟩ := hM
  refine ⟨(q0.alloc _).alloc _, (q1.alloc _).alloc _, (q2.alloc _).alloc _, ?_, ?_, (q3.alloc q3.size _).alloc (by have := q3.size; simp; omega) _⟩
  · have := (RowIs.new wr 94 (u32s begins)).alloc (.cells (u32s (vpart h 0)).toArray 159)
    rw [q4] at this; exact this
  · have := RowIs.new (wr.alloc (.cells (u32s begins).toArray 94)) 159 (u32s (vpart h 0))
    rw [World.size_alloc, q4] at this; exact this
 rw [hsz]
 clear hM
 have e1 : (u32s (vpart h 0)).toArray = #[.int .u32 0, .int .u32 0, .int .u32 0, .int .u32 0, .int .u32 0, .int .u32 0, .int .u32 0, .int .u32 0, .int .u32 0, .int .u32 0, .int .u32 0, .int .u32 0, .int .u32 0, .int .u32 0, .int .u32 0, .int .u32 0] := by rw [vpart_zero]; rfl
 rw [e1] at hB
 clear e1
 go_wp2_with fail
 generalize World.alloc _ _ = W2 at *
 clear hsz
 go_loopw [14] (fun c u => ∃ k : Nat, k ≤ 8 ∧ c = .int .i64 k ∧ RB w h (wordsL s) (vpart h k) u) (fun c _ => 8 - (intOf c).toNat)
 case atStart => exact ⟨0, by omega, rfl, hB⟩
 case round =>
 clear hB
 obtain ⟨k, hk, rfl, hB⟩ := hrel
 by_cases hlt : k < 8
 · have i0 : (k : Int) < 8 := by omega
   have i1 : (k : Int) + 8 < 16 := by omega
   have i2 : (k : Int) < 16 := by omega
   have hl0 := vset_length h HH.out k 0 (by omega)
   have hl1 := vset_length h HH.out k 1 (by omega)
   replace hB : RB w h (wordsL s) (vset h k 0) wr := hB
   have c0 := hB.hcell k (by rw [HH.out]; omega)
   have c1 := hB.vcell k (by rw [hl0]; omega)
   have f1 := hB.vfree k
   have g1 : RB w h (wordsL s) (vset h k 1) _ := hB.setV k (h.getD k 0)
   have c2 := g1.fcell k hlt
   have c3 := g1.vcell (k + 8) (by rw [hl1]; omega)
   have f3 := g1.vfree (k + 8)
   have g2 : RB w h (wordsL s) (vset h k 2) _ := g1.setV (k + 8) (begins.getD k 0)
   rw [vset_next h HH.out k hlt] at g2
   clear hB g1 hl0 hl1
   generalize h.getD k 0 = zh at *
   generalize begins.getD k 0 = zb at *
   go_wp2
   go_roundw
   case rel => exact ⟨k + 1, by omega, by go_num, g2⟩
   case measure => first | (simp [intOf]; done) | (simp [intOf]; omega)
 obtain rfl : k = 8 := by omega
 have hv8 : RB w h (wordsL s) (h ++ begins) wr := by rw [← vpart_all h HH.out]; exact hB
 clear hB
 have c12 := hv8.vcell 12 (by simp [HH.out, begins])
 obtain ⟨x12, e12⟩ : ∃ x, x = (h ++ begins).getD 12 0 := ⟨_, rfl⟩
 rw [← e12] at c12
 have E12 := Lib.hid e12
 clear e12
 have f12 := hv8.vfree 12
 have c13 := hv8.vcell 13 (by simp [HH.out, begins])
 obtain ⟨x13, e13⟩ : ∃ x, x = (h ++ begins).getD 13 0 := ⟨_, rfl⟩
 rw [← e13] at c13
 have E13 := Lib.hid e13
 clear e13
 have f13 := hv8.vfree 13
 have c14 := hv8.vcell 14 (by simp [HH.out, begins])
 obtain ⟨x14, e14⟩ : ∃ x, x = (h ++ begins).getD 14 0 := ⟨_, rfl⟩
 rw [← e14] at c14
 have E14 := Lib.hid e14
 clear e14
 have f14 := hv8.vfree 14
 have hV : RB w h (wordsL s) (vstart h t last) (if last then ((wr.setCell ⟨w.heap.size + 1 + 1 + 1 + 1, 12, none⟩ (.int .u32 (bits .xor .u32 x12 (t % 4294967296)))).setCell ⟨w.heap.size + 1 + 1 + 1 + 1, 13, none⟩ (.int .u32 (bits .xor .u32 x13 (IntKind.u64.wrap (t.tdiv 4294967296) % 4294967296)))).setCell ⟨w.heap.size + 1 + 1 + 1 + 1, 14, none⟩ (.int .u32 (bits .xor .u32 x14 4294967295))
  else ((wr.setCell ⟨w.heap.size + 1 + 1 + 1 + 1, 12, none⟩ (.int .u32 (bits .xor .u32 x12 (t % 4294967296)))).setCell ⟨w.heap.size + 1 + 1 + 1 + 1, 13, none⟩ (.int .u32 (bits .xor .u32 x13 (IntKind.u64.wrap (t.tdiv 4294967296) % 4294967296))))) := by
  have hq : IntKind.u64.wrap (t.tdiv 4294967296) = t / 4294967296 := by
   rw [Int.tdiv_eq_ediv_of_nonneg ht]
   simp [IntKind.wrap, IntKind.bits, IntKind.signed]
   omega
  unfold vstart
  dsimp only
  rw [hq, ← E12.out, ← E13.out, ← E14.out]
  cases last
  · exact (hv8.setV _ _).setV _ _
  · rw [xr_comm 4294967295 x14]
    exact ((hv8.setV _ _).setV _ _).setV _ _
 have hL := Lib.hid (vstart_length h HH.out t last)
 have hW := Lib.hid (show (wordsL s).length = 16 by simp [wordsL])
 clear hv8 E12 E13 E14 ht'
 have hsg : IntKind.u32.signed = false := rfl
 have ht2 : 0 ≤ t / 4294967296 := by omega
 have ht3 : 0 ≤ t % 4294967296 := by omega
 cases last
 all_goals
  simp only [if_true, Bool.false_eq_true, if_false] at hV
  go_wp2_with fail
  clear c12 c13 c14 f12 f13 f14 ht2 ht3
  generalize World.setCell _ _ _ = W3 at *
  clear hsg
  generalize hV0 : vstart h t _ = V0 at *
  replace hV0 := Lib.hid hV0
  go_loopw [15] (fun c u => ∃ r : Nat, r ≤ 10 ∧ c = .int .i64 r ∧ RB w h (wordsL s) (roundsL (wordsL s) r V0) u) (fun c _ => 10 - (intOf c).toNat)
  case atStart => exact ⟨0, by omega, rfl, hV⟩
  case round =>
  clear hV
  obtain ⟨r, hr, rfl, hB⟩ := hrel
  by_cases hlr : r < 10
  · obtain ⟨v0, hv0⟩ : ∃ v, v = roundsL (wordsL s) r V0 := ⟨_, rfl⟩
    obtain ⟨m, hm⟩ : ∃ m, m = wordsL s := ⟨_, rfl⟩
    have HG := Lib.hid hv0
    have HV := Lib.hid (show v0.length = 16 by rw [hv0, roundsL_length, hL.out])
    have HM := Lib.hid (show m.length = 16 by rw [hm, hW.out])
    have HE := Lib.hid hm
    rw [← hv0, ← hm] at hB
    clear hv0 hm
    have dr : decide ((r : Int) < 10) = true := by simp; omega
    go_wp2_with (go_at_call 116; refine Pause'.out ?_)
    constructor
    refine (order_any r hlr _).mono ?_
    rintro e u ⟨rfl, hb⟩
    replace hB := hB.below hb
    clear hb
    obtain ⟨F, hF⟩ : ∃ F, F = figs r := ⟨_, rfl⟩
    rw [← hF]
    have HFS := Lib.hid (show F.size = 16 by rw [hF]; exact figs_size r hlr)
    have HFA := Lib.hid (show ∀ i, i < 16 → F.data.getD i 0 = digs.data.getD (od r i) 0 by rw [hF]; exact figs_at r hlr)
    clear hF
    go_wp2_with fail
    have hlo : w.heap.size + 1 + 1 + 1 + 1 < u.heap.size := hB.2.2.2.2.1.lt
    have hR : RowIs (u.alloc (.cells (u32s (wpart m r 0)).toArray 159)) u.heap.size 159 (u32s (wpart m r 0)) := RowIs.new _ _ _
    replace hB := hB.alloc (.cells (u32s (wpart m r 0)).toArray 159)
    have e1 : (u32s (wpart m r 0)).toArray = #[.int .u32 0, .int .u32 0, .int .u32 0, .int .u32 0, .int .u32 0, .int .u32 0, .int .u32 0, .int .u32 0, .int .u32 0, .int .u32 0, .int .u32 0, .int .u32 0, .int .u32 0, .int .u32 0, .int .u32 0, .int .u32 0] := rfl
    rw [e1] at hR hB
    clear e1
    generalize World.alloc _ _ = W4 at *
    generalize u.heap.size = g at *
    obtain ⟨wo, rfl⟩ : ∃ wo : World, wo = wr := ⟨_, rfl⟩
    go_loopw [18] (fun c u => ∃ i : Nat, i ≤ 16 ∧ c = .int .i64 i ∧ RB w h m v0 u ∧ RowIs u g 159 (u32s (wpart m r i))) (fun c _ => 16 - (intOf c).toNat)
    case atStart => exact ⟨0, by omega, rfl, hB, hR⟩
    case round =>
     clear hB hR
     obtain ⟨i, hi, rfl, hB, hR⟩ := hrel
     by_cases hli : i < 16
     · have i0 : (i : Int) < 16 := by omega
       have hFS := HFS.out
       have n0 : i < F.size := by omega
       have i1 : (i : Int) < (F.size : Int) := by omega
       have ho := od_lt r hlr i hli
       have i2 : (od r i : Int) < 16 := by omega
       have c0 := hB.mcell (od r i) (by rw [HM.out]; omega)
       have c1 := hR.cell (u32s_get _ i (by rw [wpart_length _ _ _ (by omega)]; omega))
       have f1 := hR.frozen i
       have gB := hB.setO hlo i (.int .u32 (m.getD (od r i) 0))
       have gR := hR.set i (.int .u32 (m.getD (od r i) 0))
       rw [u32s_set, wpart_next m r i hli] at gR
       have HBR := Lib.hid (And.intro gB gR)
       have hfig := fun (c : Int) (hc : c = ((F.data.getD i 0).toNat : Int)) (u : World) => figure_any (od r i) ho c (by rw [hc, HFA.out i hli]) u
       have HFG := Lib.hid hfig
       clear hB hR gB gR hfig hFS
       generalize m.getD (od r i) 0 = z at *
       generalize od r i = o at *
       go_wp2_with (go_at_call 117; refine (HFG.out _ (by rw [byteAt]) _).mono ?_)
       rintro e u2 ⟨rfl, rfl⟩
       go_wp2
       go_roundw
       case rel => exact ⟨i + 1, by omega, by go_num, HBR.out.1, HBR.out.2⟩
       case measure => first | (simp [intOf]; done) | (simp [intOf]; omega)
     obtain rfl : i = 16 := by omega
     have hne : g ≠ w.heap.size + 1 + 1 + 1 + 1 := by omega
     have HWA := Lib.hid (fun i (hi : i < 16) => wpart_at m r i hi)
     have HWL := Lib.hid (wpart_length m r 16 (by omega))
     obtain ⟨ws, hws⟩ : ∃ ws, ws = wpart m r 16 := ⟨_, rfl⟩
     rw [← hws] at hR HWA HWL
     clear hws
     obtain ⟨x0, hx0⟩ : ∃ x, x = m.getD (od r 0) 0 := ⟨_, rfl⟩
     have HX0 := Lib.hid hx0
     have ew0 : ws.getD 0 0 = x0 := by rw [hx0]; exact HWA.out 0 (by omega)
     have EW0 := Lib.hid ew0
     clear hx0 ew0
     obtain ⟨x1, hx1⟩ : ∃ x, x = m.getD (od r 1) 0 := ⟨_, rfl⟩
     have HX1 := Lib.hid hx1
     have ew1 : ws.getD 1 0 = x1 := by rw [hx1]; exact HWA.out 1 (by omega)
     have EW1 := Lib.hid ew1
     clear hx1 ew1
     obtain ⟨x2, hx2⟩ : ∃ x, x = m.getD (od r 2) 0 := ⟨_, rfl⟩
     have HX2 := Lib.hid hx2
     have ew2 : ws.getD 2 0 = x2 := by rw [hx2]; exact HWA.out 2 (by omega)
     have EW2 := Lib.hid ew2
     clear hx2 ew2
     obtain ⟨x3, hx3⟩ : ∃ x, x = m.getD (od r 3) 0 := ⟨_, rfl⟩
     have HX3 := Lib.hid hx3
     have ew3 : ws.getD 3 0 = x3 := by rw [hx3]; exact HWA.out 3 (by omega)
     have EW3 := Lib.hid ew3
     clear hx3 ew3
     obtain ⟨x4, hx4⟩ : ∃ x, x = m.getD (od r 4) 0 := ⟨_, rfl⟩
     have HX4 := Lib.hid hx4
     have ew4 : ws.getD 4 0 = x4 := by rw [hx4]; exact HWA.out 4 (by omega)
     have EW4 := Lib.hid ew4
     clear hx4 ew4
     obtain ⟨x5, hx5⟩ : ∃ x, x = m.getD (od r 5) 0 := ⟨_, rfl⟩
     have HX5 := Lib.hid hx5
     have ew5 : ws.getD 5 0 = x5 := by rw [hx5]; exact HWA.out 5 (by omega)
     have EW5 := Lib.hid ew5
     clear hx5 ew5
     obtain ⟨x6, hx6⟩ : ∃ x, x = m.getD (od r 6) 0 := ⟨_, rfl⟩
     have HX6 := Lib.hid hx6
     have ew6 : ws.getD 6 0 = x6 := by rw [hx6]; exact HWA.out 6 (by omega)
     have EW6 := Lib.hid ew6
     clear hx6 ew6
     obtain ⟨x7, hx7⟩ : ∃ x, x = m.getD (od r 7) 0 := ⟨_, rfl⟩
     have HX7 := Lib.hid hx7
     have ew7 : ws.getD 7 0 = x7 := by rw [hx7]; exact HWA.out 7 (by omega)
     have EW7 := Lib.hid ew7
     clear hx7 ew7
     obtain ⟨x8, hx8⟩ : ∃ x, x = m.getD (od r 8) 0 := ⟨_, rfl⟩
     have HX8 := Lib.hid hx8
     have ew8 : ws.getD 8 0 = x8 := by rw [hx8]; exact HWA.out 8 (by omega)
     have EW8 := Lib.hid ew8
     clear hx8 ew8
     obtain ⟨x9, hx9⟩ : ∃ x, x = m.getD (od r 9) 0 := ⟨_, rfl⟩
     have HX9 := Lib.hid hx9
     have ew9 : ws.getD 9 0 = x9 := by rw [hx9]; exact HWA.out 9 (by omega)
     have EW9 := Lib.hid ew9
     clear hx9 ew9
     obtain ⟨x10, hx10⟩ : ∃ x, x = m.getD (od r 10) 0 := ⟨_, rfl⟩
     have HX10 := Lib.hid hx10
     have ew10 : ws.getD 10 0 = x10 := by rw [hx10]; exact HWA.out 10 (by omega)
     have EW10 := Lib.hid ew10
     clear hx10 ew10
     obtain ⟨x11, hx11⟩ : ∃ x, x = m.getD (od r 11) 0 := ⟨_, rfl⟩
     have HX11 := Lib.hid hx11
     have ew11 : ws.getD 11 0 = x11 := by rw [hx11]; exact HWA.out 11 (by omega)
     have EW11 := Lib.hid ew11
     clear hx11 ew11
     obtain ⟨x12, hx12⟩ : ∃ x, x = m.getD (od r 12) 0 := ⟨_, rfl⟩
     have HX12 := Lib.hid hx12
     have ew12 : ws.getD 12 0 = x12 := by rw [hx12]; exact HWA.out 12 (by omega)
     have EW12 := Lib.hid ew12
     clear hx12 ew12
     obtain ⟨x13, hx13⟩ : ∃ x, x = m.getD (od r 13) 0 := ⟨_, rfl⟩
     have HX13 := Lib.hid hx13
     have ew13 : ws.getD 13 0 = x13 := by rw [hx13]; exact HWA.out 13 (by omega)
     have EW13 := Lib.hid ew13
     clear hx13 ew13
     obtain ⟨x14, hx14⟩ : ∃ x, x = m.getD (od r 14) 0 := ⟨_, rfl⟩
     have HX14 := Lib.hid hx14
     have ew14 : ws.getD 14 0 = x14 := by rw [hx14]; exact HWA.out 14 (by omega)
     have EW14 := Lib.hid ew14
     clear hx14 ew14
     obtain ⟨x15, hx15⟩ : ∃ x, x = m.getD (od r 15) 0 := ⟨_, rfl⟩
     have HX15 := Lib.hid hx15
     have ew15 : ws.getD 15 0 = x15 := by rw [hx15]; exact HWA.out 15 (by omega)
     have EW15 := Lib.hid ew15
     clear hx15 ew15
     clear HWA
     have c0 := hR.cell (u32s_get ws 0 (by rw [HWL.out]; omega))
     rw [EW0.out] at c0
     have c1 := hR.cell (u32s_get ws 1 (by rw [HWL.out]; omega))
     rw [EW1.out] at c1
     go_wp2_with (first | (refine wpList_load_row rfl 159 (.tmp 13) rfl (w.heap.size + 1 + 1 + 1 + 1) rfl 159 (u32s v0).toArray (0, 0) _ hB.2.2.2.2.1 Tryz.underlying159 rfl (szOf _ HV.out) ?_) | (go_at_call 118; refine Pause'.out ?_))
     clear c0 c1
     constructor
     refine (rmix_0 v0 HV.out x0 x1 _).mono ?_
     rintro e k0 ⟨rfl, hb⟩
     obtain ⟨n1, hn⟩ : ∃ v, v = mixL 0 4 8 12 x0 x1 v0 := ⟨_, rfl⟩
     rw [← hn]
     have HY0 := Lib.hid hn
     have HN1 := Lib.hid (show n1.length = 16 by rw [hn, mixL_length, HV.out])
     clear hn
     have hold := (hB.below hb).2.2.2.2.1
     replace hB := (hB.below hb).putV n1
     replace hR := (hR.below hb).putOther hne (u32s n1).toArray
     clear hb
     have c2 := hR.cell (u32s_get ws 2 (by rw [HWL.out]; omega))
     rw [EW2.out] at c2
     have c3 := hR.cell (u32s_get ws 3 (by rw [HWL.out]; omega))
     rw [EW3.out] at c3
     go_wp2_with (first | (refine wpList_store_row rfl 159 (.tmp 13) (.tmp 121) rfl (w.heap.size + 1 + 1 + 1 + 1) (u32s n1).toArray rfl rfl 159 (u32s v0).toArray hold (szOf _ HN1.out) (szEq _ _ HV.out HN1.out) (oneAll _) ?_) | (refine wpList_load_row rfl 159 (.tmp 13) rfl (w.heap.size + 1 + 1 + 1 + 1) rfl 159 (u32s n1).toArray (0, 0) _ hB.2.2.2.2.1 Tryz.underlying159 rfl (szOf _ HN1.out) ?_) | (go_at_call 118; refine Pause'.out ?_))
     clear hold
     generalize World.setRow _ _ _ = K0 at *
     clear c2 c3
     constructor
     refine (rmix_1 n1 HN1.out x2 x3 _).mono ?_
     rintro e k1 ⟨rfl, hb⟩
     obtain ⟨n2, hn⟩ : ∃ v, v = mixL 1 5 9 13 x2 x3 n1 := ⟨_, rfl⟩
     rw [← hn]
     have HY1 := Lib.hid hn
     have HN2 := Lib.hid (show n2.length = 16 by rw [hn, mixL_length, HN1.out])
     clear hn
     have hold := (hB.below hb).2.2.2.2.1
     replace hB := (hB.below hb).putV n2
     replace hR := (hR.below hb).putOther hne (u32s n2).toArray
     clear hb
     have c4 := hR.cell (u32s_get ws 4 (by rw [HWL.out]; omega))
     rw [EW4.out] at c4
     have c5 := hR.cell (u32s_get ws 5 (by rw [HWL.out]; omega))
     rw [EW5.out] at c5
     go_wp2_with (first | (refine wpList_store_row rfl 159 (.tmp 13) (.tmp 127) rfl (w.heap.size + 1 + 1 + 1 + 1) (u32s n2).toArray rfl rfl 159 (u32s n1).toArray hold (szOf _ HN2.out) (szEq _ _ HN1.out HN2.out) (oneAll _) ?_) | (refine wpList_load_row rfl 159 (.tmp 13) rfl (w.heap.size + 1 + 1 + 1 + 1) rfl 159 (u32s n2).toArray (0, 0) _ hB.2.2.2.2.1 Tryz.underlying159 rfl (szOf _ HN2.out) ?_) | (go_at_call 118; refine Pause'.out ?_))
     clear hold
     generalize World.setRow _ _ _ = K1 at *
     clear c4 c5
     constructor
     refine (rmix_2 n2 HN2.out x4 x5 _).mono ?_
     rintro e k2 ⟨rfl, hb⟩
     obtain ⟨n3, hn⟩ : ∃ v, v = mixL 2 6 10 14 x4 x5 n2 := ⟨_, rfl⟩
     rw [← hn]
     have HY2 := Lib.hid hn
     have HN3 := Lib.hid (show n3.length = 16 by rw [hn, mixL_length, HN2.out])
     clear hn
     have hold := (hB.below hb).2.2.2.2.1
     replace hB := (hB.below hb).putV n3
     replace hR := (hR.below hb).putOther hne (u32s n3).toArray
     clear hb
     have c6 := hR.cell (u32s_get ws 6 (by rw [HWL.out]; omega))
     rw [EW6.out] at c6
     have c7 := hR.cell (u32s_get ws 7 (by rw [HWL.out]; omega))
     rw [EW7.out] at c7
     go_wp2_with (first | (refine wpList_store_row rfl 159 (.tmp 13) (.tmp 133) rfl (w.heap.size + 1 + 1 + 1 + 1) (u32s n3).toArray rfl rfl 159 (u32s n2).toArray hold (szOf _ HN3.out) (szEq _ _ HN2.out HN3.out) (oneAll _) ?_) | (refine wpList_load_row rfl 159 (.tmp 13) rfl (w.heap.size + 1 + 1 + 1 + 1) rfl 159 (u32s n3).toArray (0, 0) _ hB.2.2.2.2.1 Tryz.underlying159 rfl (szOf _ HN3.out) ?_) | (go_at_call 118; refine Pause'.out ?_))
     clear hold
     generalize World.setRow _ _ _ = K2 at *
     clear c6 c7
     constructor
     refine (rmix_3 n3 HN3.out x6 x7 _).mono ?_
     rintro e k3 ⟨rfl, hb⟩
     obtain ⟨n4, hn⟩ : ∃ v, v = mixL 3 7 11 15 x6 x7 n3 := ⟨_, rfl⟩
     rw [← hn]
     have HY3 := Lib.hid hn
     have HN4 := Lib.hid (show n4.length = 16 by rw [hn, mixL_length, HN3.out])
     clear hn
     have hold := (hB.below hb).2.2.2.2.1
     replace hB := (hB.below hb).putV n4
     replace hR := (hR.below hb).putOther hne (u32s n4).toArray
     clear hb
     have c8 := hR.cell (u32s_get ws 8 (by rw [HWL.out]; omega))
     rw [EW8.out] at c8
     have c9 := hR.cell (u32s_get ws 9 (by rw [HWL.out]; omega))
     rw [EW9.out] at c9
     go_wp2_with (first | (refine wpList_store_row rfl 159 (.tmp 13) (.tmp 139) rfl (w.heap.size + 1 + 1 + 1 + 1) (u32s n4).toArray rfl rfl 159 (u32s n3).toArray hold (szOf _ HN4.out) (szEq _ _ HN3.out HN4.out) (oneAll _) ?_) | (refine wpList_load_row rfl 159 (.tmp 13) rfl (w.heap.size + 1 + 1 + 1 + 1) rfl 159 (u32s n4).toArray (0, 0) _ hB.2.2.2.2.1 Tryz.underlying159 rfl (szOf _ HN4.out) ?_) | (go_at_call 118; refine Pause'.out ?_))
     clear hold
     generalize World.setRow _ _ _ = K3 at *
     clear c8 c9
     constructor
     refine (rmix_4 n4 HN4.out x8 x9 _).mono ?_
     rintro e k4 ⟨rfl, hb⟩
     obtain ⟨n5, hn⟩ : ∃ v, v = mixL 0 5 10 15 x8 x9 n4 := ⟨_, rfl⟩
     rw [← hn]
     have HY4 := Lib.hid hn
     have HN5 := Lib.hid (show n5.length = 16 by rw [hn, mixL_length, HN4.out])
     clear hn
     have hold := (hB.below hb).2.2.2.2.1
     replace hB := (hB.below hb).putV n5
     replace hR := (hR.below hb).putOther hne (u32s n5).toArray
     clear hb
     have c10 := hR.cell (u32s_get ws 10 (by rw [HWL.out]; omega))
     rw [EW10.out] at c10
     have c11 := hR.cell (u32s_get ws 11 (by rw [HWL.out]; omega))
     rw [EW11.out] at c11
     go_wp2_with (first | (refine wpList_store_row rfl 159 (.tmp 13) (.tmp 145) rfl (w.heap.size + 1 + 1 + 1 + 1) (u32s n5).toArray rfl rfl 159 (u32s n4).toArray hold (szOf _ HN5.out) (szEq _ _ HN4.out HN5.out) (oneAll _) ?_) | (refine wpList_load_row rfl 159 (.tmp 13) rfl (w.heap.size + 1 + 1 + 1 + 1) rfl 159 (u32s n5).toArray (0, 0) _ hB.2.2.2.2.1 Tryz.underlying159 rfl (szOf _ HN5.out) ?_) | (go_at_call 118; refine Pause'.out ?_))
     clear hold
     generalize World.setRow _ _ _ = K4 at *
     clear c10 c11
     constructor
     refine (rmix_5 n5 HN5.out x10 x11 _).mono ?_
     rintro e k5 ⟨rfl, hb⟩
     obtain ⟨n6, hn⟩ : ∃ v, v = mixL 1 6 11 12 x10 x11 n5 := ⟨_, rfl⟩
     rw [← hn]
     have HY5 := Lib.hid hn
     have HN6 := Lib.hid (show n6.length = 16 by rw [hn, mixL_length, HN5.out])
     clear hn
     have hold := (hB.below hb).2.2.2.2.1
     replace hB := (hB.below hb).putV n6
     replace hR := (hR.below hb).putOther hne (u32s n6).toArray
     clear hb
     have c12 := hR.cell (u32s_get ws 12 (by rw [HWL.out]; omega))
     rw [EW12.out] at c12
     have c13 := hR.cell (u32s_get ws 13 (by rw [HWL.out]; omega))
     rw [EW13.out] at c13
     go_wp2_with (first | (refine wpList_store_row rfl 159 (.tmp 13) (.tmp 151) rfl (w.heap.size + 1 + 1 + 1 + 1) (u32s n6).toArray rfl rfl 159 (u32s n5).toArray hold (szOf _ HN6.out) (szEq _ _ HN5.out HN6.out) (oneAll _) ?_) | (refine wpList_load_row rfl 159 (.tmp 13) rfl (w.heap.size + 1 + 1 + 1 + 1) rfl 159 (u32s n6).toArray (0, 0) _ hB.2.2.2.2.1 Tryz.underlying159 rfl (szOf _ HN6.out) ?_) | (go_at_call 118; refine Pause'.out ?_))
     clear hold
     generalize World.setRow _ _ _ = K5 at *
     clear c12 c13
     constructor
     refine (rmix_6 n6 HN6.out x12 x13 _).mono ?_
     rintro e k6 ⟨rfl, hb⟩
     obtain ⟨n7, hn⟩ : ∃ v, v = mixL 2 7 8 13 x12 x13 n6 := ⟨_, rfl⟩
     rw [← hn]
     have HY6 := Lib.hid hn
     have HN7 := Lib.hid (show n7.length = 16 by rw [hn, mixL_length, HN6.out])
     clear hn
     have hold := (hB.below hb).2.2.2.2.1
     replace hB := (hB.below hb).putV n7
     replace hR := (hR.below hb).putOther hne (u32s n7).toArray
     clear hb
     have c14 := hR.cell (u32s_get ws 14 (by rw [HWL.out]; omega))
     rw [EW14.out] at c14
     have c15 := hR.cell (u32s_get ws 15 (by rw [HWL.out]; omega))
     rw [EW15.out] at c15
     go_wp2_with (first | (refine wpList_store_row rfl 159 (.tmp 13) (.tmp 157) rfl (w.heap.size + 1 + 1 + 1 + 1) (u32s n7).toArray rfl rfl 159 (u32s n6).toArray hold (szOf _ HN7.out) (szEq _ _ HN6.out HN7.out) (oneAll _) ?_) | (refine wpList_load_row rfl 159 (.tmp 13) rfl (w.heap.size + 1 + 1 + 1 + 1) rfl 159 (u32s n7).toArray (0, 0) _ hB.2.2.2.2.1 Tryz.underlying159 rfl (szOf _ HN7.out) ?_) | (go_at_call 118; refine Pause'.out ?_))
     clear hold
     generalize World.setRow _ _ _ = K6 at *
     clear c14 c15
     constructor
     refine (rmix_7 n7 HN7.out x14 x15 _).mono ?_
     rintro e k7 ⟨rfl, hb⟩
     obtain ⟨n8, hn⟩ : ∃ v, v = mixL 3 4 9 14 x14 x15 n7 := ⟨_, rfl⟩
     rw [← hn]
     have HY7 := Lib.hid hn
     have HN8 := Lib.hid (show n8.length = 16 by rw [hn, mixL_length, HN7.out])
     clear hn
     have hold := (hB.below hb).2.2.2.2.1
     replace hB := (hB.below hb).putV n8
     replace hR := (hR.below hb).putOther hne (u32s n8).toArray
     clear hb
     have hend := Lib.hid (show n8 = roundsL (wordsL s) (r + 1) V0 by rw [roundsL, ← HG.out, ← HE.out, roundL8, mixAt_0, mixAt_1, mixAt_2, mixAt_3, mixAt_4, mixAt_5, mixAt_6, mixAt_7, ← HX0.out, ← HX1.out, ← HX2.out, ← HX3.out, ← HX4.out, ← HX5.out, ← HX6.out, ← HX7.out, ← HX8.out, ← HX9.out, ← HX10.out, ← HX11.out, ← HX12.out, ← HX13.out, ← HX14.out, ← HX15.out]; rw [HY7.out, HY6.out, HY5.out, HY4.out, HY3.out, HY2.out, HY1.out, HY0.out])
     have hB' : RB w h (wordsL s) (roundsL (wordsL s) (r + 1) V0) (k7.setRow (w.heap.size + 1 + 1 + 1 + 1) (u32s n8).toArray) := by
      rw [← hend.out, ← HE.out]
      exact hB
     clear hB hR
     go_wp2_with (refine wpList_store_row rfl 159 (.tmp 13) (.tmp 163) rfl (w.heap.size + 1 + 1 + 1 + 1) (u32s n8).toArray rfl rfl 159 (u32s n7).toArray hold (szOf _ HN8.out) (szEq _ _ HN7.out HN8.out) (oneAll _) ?_)
     go_roundw
     case rel =>
      first
      | exact ⟨r + 1, by omega, by go_num, hB'⟩
      | (refine ⟨_, _, _, _, _, _, _, _, _, _, _, _, _, _, _, _, _, _, _, _, _, _, _, _, _, _, _, _, _, _, _, _, _, _, _, _, _, _, _, _, _, _, _, _, _, _, _, _, _, _, _, _, _, _, _, _, _, _, _, _, _, _, _, _, _, _, _, _, _, _, _, ⟨r + 1, by omega, ?_, hB'⟩, rfl⟩; go_num)
     case measure => first | (simp [intOf]; done) | (simp [intOf]; omega)
  obtain rfl : r = 10 := by omega
  have hVL := Lib.hid (show (roundsL (wordsL s) 10 V0).length = 16 by rw [roundsL_length, hL.out])
  have HVE := Lib.hid (hpart_all h s t)
  obtain ⟨V, hV⟩ : ∃ V, V = roundsL (wordsL s) 10 V0 := ⟨_, rfl⟩
  rw [← hV] at hVL hB
  have HV := Lib.hid hV
  clear hV
  have hB0 : RB w (hpart h V 0) (wordsL s) V wr := by rw [hpart_zero h _ HH.out]; exact hB
  clear hB
  go_wp2_with fail
  obtain ⟨wo, rfl⟩ : ∃ wo : World, wo = wr := ⟨_, rfl⟩
  go_loopw [19] (fun c u => ∃ k : Nat, k ≤ 8 ∧ c = .int .i64 k ∧ RB w (hpart h V k) (wordsL s) V u) (fun c _ => 8 - (intOf c).toNat)
  case atStart => exact ⟨0, by omega, rfl, hB0⟩
  case round =>
  clear hB0
  obtain ⟨k, hk, rfl, hB⟩ := hrel
  by_cases hlk : k < 8
  · have i0 : (k : Int) < 8 := by omega
    have i1 : (k : Int) + 8 < 16 := by omega
    have i2 : (k : Int) < 16 := by omega
    go_wp2_with fail
    refine Fam.wp_region_fam [14] (fun m u => RB w (hpart h V (k + m)) (wordsL s) V u) (by kernel_rfl) (by kernel_rfl) hB.drew ?_
    iterate 3 (refine Fam.pure_ (by rfl) (by rfl) rfl (fun K hK => ?_); go_big_quiet_op; refine hK _ ?_; clear hK K)
    refine Fam.read_ ?_ (by rfl) (by rfl) (fun m' _ u hu => ?_) ?_
    rotate_left
    · obtain rfl : m' = 0 := by have := Fam.inR_le ‹_› 0 (by decide) (by kernel_rfl); omega
      have q0 := hu.hcell k (by rw [hpart_length]; exact hlk)
      rw [hpart_get _ _ _ _ hlk, if_neg (by omega)] at q0; clear hu; go_simp; rfl
    simp only [Act.put, List.setIfInBounds_toArray, List.set_cons_zero, List.set_cons_succ]
    iterate 2 (refine Fam.pure_ (by rfl) (by rfl) rfl (fun K hK => ?_); go_big_quiet_op; refine hK _ ?_; clear hK K)
    refine Fam.read_ ?_ (by rfl) (by rfl) (fun m' _ u hu => ?_) ?_
    rotate_left
    · have q0 := hu.vcell k (by rw [hVL.out]; omega); clear hu; go_simp; rfl
    simp only [Act.put, List.setIfInBounds_toArray, List.set_cons_zero, List.set_cons_succ]
    iterate 4 (refine Fam.pure_ (by rfl) (by rfl) rfl (fun K hK => ?_); go_big_quiet_op; refine hK _ ?_; clear hK K)
    refine Fam.read_ ?_ (by rfl) (by rfl) (fun m' _ u hu => ?_) ?_
    rotate_left
    · have q0 := hu.vcell (k + 8) (by rw [hVL.out]; omega); clear hu; go_simp; rfl
    simp only [Act.put, List.setIfInBounds_toArray, List.set_cons_zero, List.set_cons_succ]
    iterate 2 (refine Fam.pure_ (by rfl) (by rfl) rfl (fun K hK => ?_); go_big_quiet_op; refine hK _ ?_; clear hK K)
    refine Fam.store_ (by rfl) (by rfl) (fun u hu => ?_) ?_
    · have q0 := hu.hcell k (by rw [hpart_length]; exact hlk); have f0 := hu.hfree k; have g0 := hu.setH k (xr (h.getD k 0) (xr (V.getD k 0) (V.getD (k + 8) 0)))
      rw [Nat.add_zero, hpart_next _ _ _ hlk] at g0
      refine ⟨_, ?_, g0⟩
      clear g0 hu
      have ha := xr_assoc (h.getD k 0) (V.getD k 0) (V.getD (k + 8) 0)
      unfold xr at ha ⊢
      have HA := Lib.hid ha
      clear ha
      go_simp
      have ha := HA.out
      first | rw [ha] | (simp only [List.getD_eq_getElem?_getD] at ha; rw [ha])
    try simp only [Act.put, List.setIfInBounds_toArray, List.set_cons_zero, List.set_cons_succ]
    refine Fam.nil_ ?_
    intro u hu
    go_wp2
    go_roundw
    case rel => exact ⟨k + 1, by omega, by go_num, hu⟩
    case measure => first | (simp [intOf]; done) | (simp [intOf]; omega)
  obtain rfl : k = 8 := by omega
  obtain ⟨R, hR⟩ : ∃ R, R = hpart h V 8 := ⟨_, rfl⟩
  rw [← hR] at hB
  have hR2 := hR
  obtain ⟨a0, a1, a2, a3, a4, a5, a6, a7, e8⟩ := list8 R (by rw [hR]; exact hpart_length _ _ _)
  clear hR
  rw [e8] at hB hR2
  have HR := Lib.hid hR2
  clear e8 hR2
  have z0 := hB.1.cell (i := 0) rfl; have y0 := hB.2.1.cell (i := 0) rfl; have f0 := hB.2.1.frozen 0
  have z1 := hB.1.cell (i := 1) rfl; have y1 := hB.2.1.cell (i := 1) rfl; have f1 := hB.2.1.frozen 1
  have z2 := hB.1.cell (i := 2) rfl; have y2 := hB.2.1.cell (i := 2) rfl; have f2 := hB.2.1.frozen 2
  have z3 := hB.1.cell (i := 3) rfl; have y3 := hB.2.1.cell (i := 3) rfl; have f3 := hB.2.1.frozen 3
  have z4 := hB.1.cell (i := 4) rfl; have y4 := hB.2.1.cell (i := 4) rfl; have f4 := hB.2.1.frozen 4
  have z5 := hB.1.cell (i := 5) rfl; have y5 := hB.2.1.cell (i := 5) rfl; have f5 := hB.2.1.frozen 5
  have z6 := hB.1.cell (i := 6) rfl; have y6 := hB.2.1.cell (i := 6) rfl; have f6 := hB.2.1.frozen 6
  have z7 := hB.1.cell (i := 7) rfl; have y7 := hB.2.1.cell (i := 7) rfl; have f7 := hB.2.1.frozen 7
  have hb := hB.2.2.2.2.2
  clear hB
  go_wp2
  refine bodyPost_ret (v := .tuple #[.agg #[.int .u32 a0, .int .u32 a1, .int .u32 a2, .int .u32 a3, .int .u32 a4, .int .u32 a5, .int .u32 a6, .int .u32 a7], .int .i64 0]) (by simp [results, Tryz.results87, go_sem, y0, y1, y2, y3, y4, y5, y6, y7]) rfl ⟨by rw [← hpart_all h s t, hV0.out, ← HV.out, ← HR.out]; rfl, ?_⟩
  repeat (refine Below.setCell ?_ (by simp) _)
  exact hb
end Go.Proofs.YtjlpjpjodhkpdaaGreatDoor
namespace Go.Proofs.YtjlpjpjodhkpdaaGreatDoor
open Go.RowKit
theorem extract_extract (s : ByteArray) (a b c d : Nat) (h : a + d ≤ b ∨ b = s.size) : (s.extract a b).extract c d = s.extract (a + c) (min (a + d) b) := by
 apply ByteArray.ext
 simp only [ByteArray.data_extract]
 exact Array.extract_extract
theorem xr_range (x y : Int) : 0 ≤ xr x y ∧ xr x y < 4294967296 := by
 have e : xr x y = ((BitVec.ofInt 32 x ^^^ BitVec.ofInt 32 y).toNat : Int) % 4294967296 := by
  show IntKind.u32.wrap _ = _
  rw [IntKind.wrap_u32]
  rfl
 rw [e]
 omega
theorem blockL_range (h : List Int) (s : ByteArray) (t : Int) (last : Bool) : ∀ i, i < 8 → 0 ≤ (blockL h s t last).getD i 0 ∧ (blockL h s t last).getD i 0 < 4294967296 := by
 intro i hi
 unfold blockL
 rw [List.getD_eq_getElem?_getD, List.getElem?_map, List.getElem?_range hi]
 exact xr_range _ _
def yv (z : Int) : Nat → Int
 | 0 => z
 | n + 1 => yv z n / 256
theorem yv_next (z : Int) (n : Nat) : yv z n / 256 = yv z (n + 1) := rfl
theorem yv_range (z : Int) (n : Nat) (h0 : 0 ≤ z) (h1 : z < 4294967296) : 0 ≤ yv z n ∧ yv z n < 4294967296 := by
 induction n with
 | zero => exact ⟨h0, h1⟩
 | succ n ih =>
   show 0 ≤ yv z n / 256 ∧ yv z n / 256 < 4294967296
   omega
theorem toldP_next (F : List Int) (k n : Nat) (hn : n < 4) (z : Int) (hz : z = F.getD k 0) : toldP F k n ++ [u8of (yv z n)] = toldP F k (n + 1) := by
 unfold toldP
 rw [← hz, List.append_assoc, List.take_succ_eq_append_getElem (by simp [wb]; omega)]
 have e1 : z / 256 / 256 = z / 65536 := by omega
 have e2 : z / 256 / 256 / 256 = z / 16777216 := by omega
 have e : [u8of (yv z n)] = [(wb z)[n]'(by simp [wb]; omega)] := by
  rcases (show n = 0 ∨ n = 1 ∨ n = 2 ∨ n = 3 by omega) with rfl | rfl | rfl | rfl
  · rfl
  · rfl
  · show [u8of (z / 256 / 256)] = [u8of (z / 65536)]
    rw [e1]
  · show [u8of (z / 256 / 256 / 256)] = [u8of (z / 16777216)]
    rw [e2]
 rw [e]
theorem rall_any (h : List Int) (hh : h.length = 8) (s : ByteArray) (hs : s.size ≤ 562949953421312) (w : World) :
 Calls Tryz.prog 54 #[.agg (u32s h).toArray, .string s] w fun e w' => e = .returned (.string ⟨(toldL (feedL (s.size + 1) h s 0)).toArray⟩) ∧ Below w.heap.size w w' := by
 have HH := Lib.hid hh
 clear hh
 generalize hF : feedL (s.size + 1) h s 0 = F at *
 have HF := Lib.hid (show feedL (s.size + 1) h (s.extract 0 s.size) ((0 : Nat) : Int) = F by rw [ByteArray.extract_zero_size]; exact hF)
 clear hF
 go_enter Tryz.func54, Tryz.ntmps54
 go_wp2
 have hR := RowIs.new w 95 (u32s h)
 have hB := (Below.refl w.heap.size w).alloc (Nat.le_refl _) (.cells (u32s h).toArray 95)
 generalize World.alloc _ _ = W at *
 go_loopw [5] (fun c u => ∃ (f : Nat) (g : List Int) (t : Nat), c = .int .i64 t ∧ s.size - t < f ∧ t ≤ s.size ∧ g.length = 8 ∧ Hid (feedL f g (s.extract t s.size) t = F) ∧ RowIs u w.heap.size 95 (u32s g) ∧ Below w.heap.size w u) (fun c _ => s.size - (intOf c).toNat)
 case atStart => exact ⟨s.size + 1, h, 0, rfl, by omega, by omega, HH.out, HF, hR, hB⟩
 case round =>
  clear hR hB HF
  obtain ⟨f, g, t, rfl, hf, ht, hg, HF, hR, hB⟩ := hrel
  have HG := Lib.hid hg
  clear hg
  by_cases h64 : t + 64 < s.size
  · have i64 : (t : Int) + 64 < (s.size : Int) := by omega
    have i64b : (t : Int) + 64 ≤ (s.size : Int) := by omega
    have i0 : (t : Int) ≤ (t : Int) + 64 := by omega
    have X64 := Lib.hid (show (s.extract t (t + 64)).size = 64 by rw [ByteArray.size_extract]; omega)
    go_wp2
    refine Fam.wp_region_fam [9, 13] (fun m u => RowIs u w.heap.size 95 (u32s (if m ≤ 1 then g else blockL g (s.extract t (t + 64)) ((t : Int) + 64) false)) ∧ Below w.heap.size w u) (by kernel_rfl) (by kernel_rfl) ⟨hR, hB.drew⟩ ?_
    refine FamRow.load_ 95 (.tmp 2) _ 95 (u32s g) _ 8 rfl rfl rfl rfl Tryz.underlying95 rfl size8 (by rw [u32s_length]; exact HG.out) (fun m' hm u hu => ?_) ?_
    · have hm := Fam.inR_le hm 0 (by decide) (by kernel_rfl)
      obtain ⟨hu, _⟩ := hu
      rw [if_pos (by omega)] at hu
      exact hu
    simp only [Act.put, List.setIfInBounds_toArray, List.set_cons_zero, List.set_cons_succ]
    iterate 4 (refine Fam.pure_ (by rfl) (by rfl) rfl (fun K hK => ?_); go_big_quiet_op; refine hK _ ?_; clear hK K)
    refine Fam.any_ ?_ (by rfl) (by rfl) (fun w => ?_) ?_
    rotate_left
    · go_simp; rfl
    simp only [Act.put, List.setIfInBounds_toArray, List.set_cons_zero, List.set_cons_succ]
    iterate 3 (refine Fam.pure_ (by rfl) (by rfl) rfl (fun K hK => ?_); go_big_quiet_op; refine hK _ ?_; clear hK K)
    refine Fam.effCall_ (.tuple #[.agg (u32s (blockL g (s.extract t (t + 64)) ((t : Int) + 64) false)).toArray, .int .i64 0]) 87 ?_ (by rfl) (by rfl) (fun w => ?_) (fun u hu => ?_) ?_
    rotate_left
    · go_simp; rfl
    · have h1 : RowIs u w.heap.size 95 (u32s g) := hu.1
      exact (rblock_ok g HG.out (s.extract t (t + 64)) X64.out _ (by omega) (by omega) false u).mono fun e u' ⟨he, hb⟩ => ⟨he, h1.below hb, hu.2.trans (hb.mono hu.2.size)⟩
    simp only [Act.put, List.setIfInBounds_toArray, List.set_cons_zero, List.set_cons_succ]
    iterate 3 (refine Fam.pure_ (by rfl) (by rfl) rfl (fun K hK => ?_); go_big_quiet_op; refine hK _ ?_; clear hK K)
    refine FamRow.store_ 95 (.tmp 2) (.tmp 26) _ 95 _ 8 rfl rfl rfl rfl rfl size8 (by rw [u32s_length, blockL_length]) (u32s_one _) (fun u hu => ?_) ?_
    · exact ⟨_, hu.1, by rw [u32s_length]; exact HG.out, hu.1.put _, below_setRow hu.2 (Nat.le_refl _) _⟩
    try simp only [Act.put, List.setIfInBounds_toArray, List.set_cons_zero, List.set_cons_succ]
    refine Fam.nil_ ?_
    rintro u ⟨hR, hB⟩
    have hR' : RowIs u w.heap.size 95 (u32s (blockL g (s.extract t (t + 64)) ((t : Int) + 64) false)) := hR
    have hF' : Hid (feedL (f - 1) (blockL g (s.extract t (t + 64)) (((t + 64 : Nat) : Int)) false) (s.extract (t + 64) s.size) ((t + 64 : Nat) : Int) = F) := by
     obtain ⟨f, rfl⟩ : ∃ i, f = i + 1 := ⟨f - 1, by omega⟩
     have h2 := HF.out
     rw [feedL, if_pos (by rw [ByteArray.size_extract]; omega)] at h2
     have h3 : (s.extract t s.size).extract 0 64 = s.extract t (t + 64) := by
      rw [extract_extract s t s.size 0 64 (.inr rfl), Nat.add_zero, Nat.min_eq_left (by omega)]
     have h4 : (s.extract t s.size).extract 64 (s.extract t s.size).size = s.extract (t + 64) s.size := by
      rw [extract_extract s t s.size 64 _ (.inr rfl), ByteArray.size_extract, Nat.min_eq_right (by omega)]
     rw [h3, h4] at h2
     exact Lib.hid h2
    clear hR HF
    go_wp2
    go_roundw
    case rel => exact ⟨f - 1, _, t + 64, by go_num, by omega, by omega, blockL_length _ _ _ _, hF', hR', hB⟩
    case measure => first | (simp [intOf]; done) | (simp [intOf]; omega)
  · have X65 := Lib.hid (show (s.extract t s.size).size = s.size - t by rw [ByteArray.size_extract]; omega)
    have i65 : (t : Int) ≤ (s.size : Int) := by omega
    go_wp2
    refine Fam.wp_region_fam [4, 8, 12] (fun m u => RowIs u w.heap.size 95 (u32s (if m ≤ 2 then g else blockL g (padB (s.extract t s.size)) (s.size : Int) true)) ∧ Below w.heap.size w u) (by kernel_rfl) (by kernel_rfl) ⟨hR, hB.drew⟩ ?_
    refine FamRow.load_ 95 (.tmp 2) _ 95 (u32s g) _ 8 rfl rfl rfl rfl Tryz.underlying95 rfl size8 (by rw [u32s_length]; exact HG.out) (fun m' hm u hu => ?_) ?_
    · have hm := Fam.inR_le hm 1 (by decide) (by kernel_rfl)
      obtain ⟨hu, _⟩ := hu
      rw [if_pos (by omega)] at hu
      exact hu
    simp only [Act.put, List.setIfInBounds_toArray, List.set_cons_zero, List.set_cons_succ]
    iterate 2 (refine Fam.pure_ (by rfl) (by rfl) rfl (fun K hK => ?_); go_big_quiet_op; refine hK _ ?_; clear hK K)
    refine Fam.any_ ?_ (by rfl) (by rfl) (fun w => ?_) ?_
    rotate_left
    · go_simp; rfl
    simp only [Act.put, List.setIfInBounds_toArray, List.set_cons_zero, List.set_cons_succ]
    refine Fam.effCall_ (.string (padB (s.extract t s.size))) 88 ?_ (by rfl) (by rfl) (fun w => ?_) (fun u hu => ?_) ?_
    rotate_left
    · go_simp; rfl
    · have h1 : RowIs u w.heap.size 95 (u32s g) := hu.1
      exact (pad_any (s.extract t s.size) (by rw [X65.out]; omega) u).mono fun e u' ⟨he, hb⟩ => ⟨he, h1.below hb, hu.2.trans (hb.mono hu.2.size)⟩
    simp only [Act.put, List.setIfInBounds_toArray, List.set_cons_zero, List.set_cons_succ]
    refine Fam.pure_ (by rfl) (by rfl) rfl (fun K hK => ?_)
    go_big_quiet_op
    refine hK _ ?_
    clear hK K
    refine Fam.any_ ?_ (by rfl) (by rfl) (fun w => ?_) ?_
    rotate_left
    · go_simp; rfl
    simp only [Act.put, List.setIfInBounds_toArray, List.set_cons_zero, List.set_cons_succ]
    refine Fam.pure_ (by rfl) (by rfl) rfl (fun K hK => ?_)
    go_big_quiet_op
    refine hK _ ?_
    clear hK K
    refine Fam.effCall_ (.tuple #[.agg (u32s (blockL g (padB (s.extract t s.size)) (s.size : Int) true)).toArray, .int .i64 0]) 87 ?_ (by rfl) (by rfl) (fun w => ?_) (fun u hu => ?_) ?_
    rotate_left
    · go_simp; rfl
    · have h1 : RowIs u w.heap.size 95 (u32s g) := hu.1
      exact (rblock_ok g HG.out (padB (s.extract t s.size)) (padB_size _ (by rw [X65.out]; omega)) _ (by omega) (by omega) true u).mono fun e u' ⟨he, hb⟩ => ⟨he, hu.1.below hb, hu.2.trans (hb.mono hu.2.size)⟩
    simp only [Act.put, List.setIfInBounds_toArray, List.set_cons_zero, List.set_cons_succ]
    iterate 3 (refine Fam.pure_ (by rfl) (by rfl) rfl (fun K hK => ?_); go_big_quiet_op; refine hK _ ?_; clear hK K)
    refine FamRow.store_ 95 (.tmp 2) (.tmp 40) _ 95 _ 8 rfl rfl rfl rfl rfl size8 (by rw [u32s_length, blockL_length]) (u32s_one _) (fun u hu => ?_) ?_
    · exact ⟨_, hu.1, by rw [u32s_length]; exact HG.out, hu.1.put _, below_setRow hu.2 (Nat.le_refl _) _⟩
    try simp only [Act.put, List.setIfInBounds_toArray, List.set_cons_zero, List.set_cons_succ]
    refine Fam.nil_ ?_
    rintro u ⟨hR2, hB2⟩
    have hF' : Hid (blockL g (padB (s.extract t s.size)) (s.size : Int) true = F) := by
     obtain ⟨f, rfl⟩ : ∃ i, f = i + 1 := ⟨f - 1, by omega⟩
     have h2 := HF.out
     rw [feedL, if_neg (by rw [ByteArray.size_extract]; omega)] at h2
     have h3 : (t : Int) + ((s.extract t s.size).size : Int) = (s.size : Int) := by rw [X65.out]; omega
     rw [h3] at h2
     exact Lib.hid h2
    have hR' : RowIs u w.heap.size 95 (u32s F) := by rw [← hF'.out]; exact hR2
    have HL := Lib.hid (show F.length = 8 by rw [← hF'.out]; exact blockL_length _ _ _ _)
    have HW := Lib.hid (show ∀ i, i < 8 → 0 ≤ F.getD i 0 ∧ F.getD i 0 < 4294967296 by rw [← hF'.out]; exact blockL_range _ _ _ _)
    clear hR2 HF hF' X65 i65
    have hO : u.ownsRow (w.heap.size + 1) 5 1 (.slice none 0 0) (toldP F 0 0).length (Lib.byteCells (toldP F 0 0)) := World.ownsRow_nil _ _ _ _
    have hS : w.heap.size + 1 ≤ u.heap.size := hR'.lt
    obtain ⟨i0, hi, hz0, hz1, hz2⟩ := info_parts infoByte
    go_wp2_with fail
    go_loopw [6, 7] (fun x c u => ∃ k : Nat, k ≤ 8 ∧ c = .int .i64 k ∧ u.ownsRow (w.heap.size + 1) 5 1 x (toldP F k 0).length (Lib.byteCells (toldP F k 0)) ∧ RowIs u w.heap.size 95 (u32s F) ∧ Below w.heap.size w u ∧ w.heap.size + 1 ≤ u.heap.size) (fun _ c _ => 8 - (intOf c).toNat)
    case atStart => exact ⟨0, by omega, rfl, hO, hR', hB2, hS⟩
    case round =>
     clear hO hR' hB2 hS
     obtain ⟨k, hk, rfl, hO, hR, hB, hS⟩ := hrel
     by_cases hlt : k < 8
     · have hw := HW.out k hlt
       have c0 := hR.cell (u32s_get _ k (by rw [HL.out]; omega))
       have i1 : (k : Int) < 8 := by omega
       have dk : decide ((k : Int) < 8) = true := by simp; omega
       obtain ⟨z, hz⟩ : ∃ z, z = F.getD k 0 := ⟨_, rfl⟩
       rw [← hz] at c0 hw
       have HZ := Lib.hid hz
       have HZW := Lib.hid hw
       clear hz hw
       go_wp2_with fail
       obtain ⟨wo2, rfl⟩ : ∃ wo : World, wo = wr := ⟨_, rfl⟩
       go_loopw [6, 8, 9] (fun x y c u => ∃ n : Nat, n ≤ 4 ∧ c = .int .i64 n ∧ y = .int .u32 (yv z n) ∧ u.ownsRow (w.heap.size + 1) 5 1 x (toldP F k n).length (Lib.byteCells (toldP F k n)) ∧ RowIs u w.heap.size 95 (u32s F) ∧ Below w.heap.size w u ∧ w.heap.size + 1 ≤ u.heap.size) (fun _ _ c _ => 4 - (intOf c).toNat)
       case atStart => exact ⟨0, by omega, rfl, rfl, hO, hR, hB, hS⟩
       case round =>
        clear hO hR hB hS c0
        obtain ⟨n, hn, rfl, rfl, hO, hR, hB, hS⟩ := hrel
        have hl := toldP_length F k n (by omega)
        rw [HL.out] at hl
        by_cases hn4 : n < 4
        · have hy := yv_range z n HZW.out.1 HZW.out.2
          have dn : decide ((n : Int) < 4) = true := by simp; omega
          have hnx := Lib.hid (show Lib.byteCells (toldP F k n) ++ [Value.int .u8 (yv z n % 256)] = Lib.byteCells (toldP F k (n + 1)) by rw [← toldP_next F k n hn4 z HZ.out, byteCells_snoc, u8of_toNat])
          have hll := Lib.hid (show (toldP F k n).length + 1 = (toldP F k (n + 1)).length by rw [← toldP_next F k n hn4 z HZ.out, List.length_append]; rfl)
          have hyn := Lib.hid (yv_next z n)
          generalize yv z n = yy at *
          have hq1 : yy.tmod 256 = yy % 256 := Int.tmod_eq_emod_of_nonneg hy.1
          have hq2 : yy.tdiv 256 = yy / 256 := Int.tdiv_eq_ediv_of_nonneg hy.1
          have hq3 : 0 ≤ yy % 256 := by omega
          have hq4 : yy % 256 < 256 := by omega
          go_wp2_with (at_builtin; refine wpList_append_own _ rfl _ _ 90 rfl (w.heap.size + 1) 5 i0 (.int .u8 0) 1 1 Tryz.underlying90 hi hz0 hz1 hz2 rfl (by decide) _ _ _ rfl (hO.alloc _) ⟨wr.heap.size, 0, none⟩ 1 1 [.int .u8 (yy % 256)] rfl rfl ?c1 ?c2 ?c3 ?c4 ?c5 ?_)
          case c1 =>
           intro j u hj
           match j, hj with
           | 0, hj => simp at hj; subst hj; simp [Addr.add]
          case c2 => intro u hu; simp at hu; subst hu; rfl
          case c3 => unfold maxLen; omega
          case c4 => omega
          case c5 => simp; omega
          intro v' w2 hO2 hgr _
          rw [hnx.out, hll.out] at hO2
          have hR2 := (hR.alloc (.cells #[.int .u8 (yy % 256)] 5)).grown hgr (fun e => by have := (hO.lt _ e.symm).1; omega)
          have hB2 := (hB.alloc hB.size (.cells #[.int .u8 (yy % 256)] 5)).grown hgr (by simp; omega) (fun g hg => by have := (hO.lt _ hg).1; omega)
          have hS2 : w.heap.size + 1 ≤ w2.heap.size := Nat.le_trans (by simp; omega) hgr.size
          clear hO hR hB hS hgr
          go_wp2
          go_roundw
          case rel => exact ⟨n + 1, by omega, by go_num, by rw [hyn.out], hO2, hR2, hB2, hS2⟩
          case measure => first | (simp [intOf]; done) | (simp [intOf]; omega)
        · obtain rfl : n = 4 := by omega
          rw [toldP_word F HL.out k hlt] at hO
          go_wp2
          go_roundw
          case rel => exact ⟨k + 1, by omega, by go_num, hO, hR, hB, hS⟩
          case measure => first | (simp [intOf]; done) | (simp [intOf]; omega)
     · obtain rfl : k = 8 := by omega
       rw [toldP_all F HL.out] at hO
       have hl := toldL_length F
       rw [HL.out] at hl
       have hP : PadAt 5 wr (w.heap.size + 1) _ (toldL F) := .inl hO
       obtain ⟨p, cap, rfl⟩ := hP.slice
       obtain ⟨g', rfl⟩ := hP.addr (by rw [hl]; decide) rfl
       have hback := run_convert_bytes_back (P := Tryz.prog) wr 90 9 5 ⟨g', 0, none⟩ cap (toldL F) Tryz.underlying90 Tryz.underlying5 Tryz.underlying9 (hP.cellAt rfl)
       rw [hl] at hback ⊢
       clear hP hO
       go_wp2
       go_ret
       exact ⟨rfl, hB⟩
end Go.Proofs.YtjlpjpjodhkpdaaGreatDoor
namespace Go.Proofs.YtjlpjpjodhkpdaaGreatDoor
open Go.RowKit
theorem rsum_any (s : ByteArray) (hs : s.size ≤ 562949953421312) (w : World) :
 Calls Tryz.prog 25 #[.string s] w fun e w' => e = .returned (.string (sumB s)) ∧ Below w.heap.size w w' := by
 have hst := rstart_ok 0 (by omega) (by omega) w
 rw [startA_eq] at hst
 have hall := fun (u : World) => rall_any (startL 0) (startL_length 0) s hs u
 rw [startA_eq] at hall
 change ∀ (u : World), Calls _ _ _ _ (fun e w' => e = Ending.returned (Value.string (sumB s)) ∧ Below u.heap.size u w') at hall
 generalize key0 0 = k0 at *
 unfold startA at hst hall
 generalize sumB s = out at *
 have HS := Lib.hid hst; have HA := Lib.hid hall
 clear hst hall
 go_enter Tryz.func25, Tryz.ntmps25
 go_wp2_with (go_at_call 53; refine HS.out.mono ?_)
 rintro e u ⟨rfl, hb⟩
 go_wp2_with (go_at_call 54; refine (HA.out _).mono ?_)
 rintro e u' ⟨rfl, hb2⟩
 have hb3 := (hb.alloc hb.size _).trans (hb2.mono (by have := hb.size; simp; omega))
 clear hb hb2
 go_wp2
 go_ret
 exact ⟨rfl, hb3⟩
end Go.Proofs.YtjlpjpjodhkpdaaGreatDoor
namespace Go.Proofs.YtjlpjpjodhkpdaaGreatDoor
open Go.RowKit
def sumF (a0 : ByteArray) : Option ByteArray := if a0.size ≤ 562949953421312 then some (sumB a0) else none
def blake_Sum.f (a0 : ByteArray) : Option ByteArray := sumF a0
def cartoucheref02_Sum.f (a0 : ByteArray) : Option ByteArray := sumF a0
theorem blake_Sum.calls (a0 : ByteArray) (r : ByteArray) (w : World) (hT : Tabs w) (h : blake_Sum.f a0 = some r) :
 Calls Tryz.prog 76 #[.string a0] w fun e w' => e = .returned (.string r) ∧ Below w.heap.size w w' := by
 unfold blake_Sum.f sumF at h
 by_cases hs : a0.size ≤ 562949953421312
 · rw [if_pos hs] at h
   obtain rfl := Option.some.inj h
   exact sum_any a0 hs w hT
 · rw [if_neg hs] at h
   cases h
theorem cartoucheref02_Sum.calls (a0 : ByteArray) (r : ByteArray) (w : World) (h : cartoucheref02_Sum.f a0 = some r) :
 Calls Tryz.prog 25 #[.string a0] w fun e w' => e = .returned (.string r) ∧ Below w.heap.size w w' := by
 unfold cartoucheref02_Sum.f sumF at h
 by_cases hs : a0.size ≤ 562949953421312
 · rw [if_pos hs] at h
   obtain rfl := Option.some.inj h
   exact rsum_any a0 hs w
 · rw [if_neg hs] at h
   cases h
end Go.Proofs.YtjlpjpjodhkpdaaGreatDoor
namespace Go.Proofs.YtjlpjpjodhkpdaaGreatDoor
open Go.RowKit
theorem rkeyed_no (key s : ByteArray) (hk : key.size = 0 ∨ 32 < key.size) (w : World) :
 Calls Tryz.prog 139 #[.string key, .string s] w fun e w' => e = .returned (.tuple #[.string .empty, .int .i64 1]) ∧ w = w' := by
 rcases hk with hk | hk
 · have h1 : (key.size : Int) < 1 := by omega
   go_enter Tryz.func139, Tryz.ntmps139
   go_wp2
   go_ret2
   exact ⟨rfl, rfl⟩
 · have h1 : ¬ (key.size : Int) < 1 := by omega
   go_enter Tryz.func139, Tryz.ntmps139
   go_wp2
   go_ret2
   exact ⟨rfl, rfl⟩
theorem rkeyed_ok (key s : ByteArray) (hk1 : 1 ≤ key.size) (hk2 : key.size ≤ 32) (hs : s.size ≤ 562949953421248) (w : World) :
 Calls Tryz.prog 139 #[.string key, .string s] w fun e w' => e = .returned (.tuple #[.string (keyedB key s), .int .i64 0]) ∧ Below w.heap.size w w' := by
 have h1 : ¬ (key.size : Int) < 1 := by omega
 have hst := rstart_ok key.size (by omega) (by omega) w
 rw [startA_eq] at hst
 have hps : (padB key).size = 64 := padB_size key (by omega)
 have hin : (keyedIn key s).size ≤ 562949953421312 := by
  unfold keyedIn
  rw [ByteArray.size_append, hps]
  omega
 have hall := fun (u : World) => rall_any (startL key.size) (startL_length _) (keyedIn key s) hin u
 rw [startA_eq] at hall
 change ∀ (u : World), Calls _ _ _ _ (fun e w' => e = Ending.returned (Value.string (keyedB key s)) ∧ Below u.heap.size u w') at hall
 generalize key0 key.size = k0 at *
 unfold startA at hst hall
 have HS := Lib.hid hst; have HA := Lib.hid hall
 clear hst hall hin
 have l1 : ¬ 9223372036854775807 < (padB key).size + s.size := by omega
 clear hps
 go_enter Tryz.func139, Tryz.ntmps139
 go_wp2_with (go_at_call 53; refine Pause'.out ?_)
 constructor
 refine HS.out.mono ?_
 rintro e U ⟨rfl, hb⟩
 go_wp2_with fail
 have hR : RowIs (U.alloc (.cells (u32s [k0, 3144134277, 1013904242, 2773480762, 1359893119, 2600822924, 528734635, 1541459225]).toArray 95)) U.heap.size 95 (u32s [k0, 3144134277, 1013904242, 2773480762, 1359893119, 2600822924, 528734635, 1541459225]) := RowIs.new _ _ _
 have hB := hb.alloc hb.size (.cells (u32s [k0, 3144134277, 1013904242, 2773480762, 1359893119, 2600822924, 528734635, 1541459225]).toArray 95)
 have e0 : (u32s [k0, 3144134277, 1013904242, 2773480762, 1359893119, 2600822924, 528734635, 1541459225]).toArray = #[.int .u32 k0, .int .u32 3144134277, .int .u32 1013904242, .int .u32 2773480762, .int .u32 1359893119, .int .u32 2600822924, .int .u32 528734635, .int .u32 1541459225] := rfl
 rw [e0] at hR hB
 generalize World.alloc _ _ = W at *
 refine Fam.wp_region_fam [2, 5] (fun m u => RowIs u U.heap.size 95 (u32s [k0, 3144134277, 1013904242, 2773480762, 1359893119, 2600822924, 528734635, 1541459225]) ∧ Below w.heap.size w u) (by kernel_rfl) (by kernel_rfl) ⟨hR, hB.drew⟩ ?_
 refine FamRow.load_ 95 (.tmp 6) _ 95 (u32s [k0, 3144134277, 1013904242, 2773480762, 1359893119, 2600822924, 528734635, 1541459225]) _ 8 rfl rfl rfl rfl Tryz.underlying95 rfl size8 rfl (fun m' hm u hu => ?_) ?_
 · exact hu.1
 simp only [Act.put, List.setIfInBounds_toArray, List.set_cons_zero, List.set_cons_succ]
 refine Fam.pure_ (by rfl) (by rfl) rfl (fun K hK => ?_)
 go_big_quiet_op
 refine hK _ ?_
 clear hK K
 refine Fam.effCall_ (.string (padB key)) 88 ?_ (by rfl) (by rfl) (fun w => ?_) (fun u hu => ?_) ?_
 rotate_left
 · go_simp; rfl
 · exact (pad_any key (by omega) u).mono fun e u' ⟨he, hb⟩ => ⟨he, hu.1.below hb, hu.2.trans (hb.mono hu.2.size)⟩
 simp only [Act.put, List.setIfInBounds_toArray, List.set_cons_zero, List.set_cons_succ]
 iterate 2 (refine Fam.pure_ (by rfl) (by rfl) rfl (fun K hK => ?_); go_big_quiet_op; refine hK _ ?_; clear hK K)
 refine Fam.effCall_ (.string (keyedB key s)) 54 ?_ (by rfl) (by rfl) (fun w => ?_) (fun u hu => ?_) ?_
 rotate_left
 · go_simp; rfl
 · exact (HA.out u).mono fun e u' ⟨he, hb⟩ => ⟨he, hu.1.below hb, hu.2.trans (hb.mono hu.2.size)⟩
 simp only [Act.put, List.setIfInBounds_toArray, List.set_cons_zero, List.set_cons_succ]
 iterate 2 (refine Fam.pure_ (by rfl) (by rfl) rfl (fun K hK => ?_); go_big_quiet_op; refine hK _ ?_; clear hK K)
 refine Fam.nil_ ?_
 rintro u2 ⟨_, hu2⟩
 go_wp2
 go_ret2
 exact ⟨rfl, hu2⟩
end Go.Proofs.YtjlpjpjodhkpdaaGreatDoor
namespace Go.Proofs.YtjlpjpjodhkpdaaGreatDoor
open Go.RowKit
def keyedF (a0 a1 : ByteArray) : Option (ByteArray × Int) :=
 if a1.size ≤ 562949953421248 then (if a0.size = 0 ∨ 32 < a0.size then some (⟨#[]⟩, 1) else some (keyedB a0 a1, 0)) else none
def cartoucheref02_Keyed.f (a0 a1 : ByteArray) : Option (ByteArray × Int) := keyedF a0 a1
theorem cartoucheref02_Keyed.calls (a0 : ByteArray) (a1 : ByteArray) (r1 : ByteArray) (r2 : Int) (w : World) (h : cartoucheref02_Keyed.f a0 a1 = some (r1, r2)) :
 Calls Tryz.prog 139 #[.string a0, .string a1] w fun e w' => e = .returned (.tuple #[.string r1, .int .i64 r2]) ∧ Below w.heap.size w w' := by
 unfold cartoucheref02_Keyed.f keyedF at h
 by_cases hs : a1.size ≤ 562949953421248
 · rw [if_pos hs] at h
   by_cases hk : a0.size = 0 ∨ 32 < a0.size
   · rw [if_pos hk] at h
     obtain ⟨rfl, rfl⟩ := Prod.mk.inj (Option.some.inj h)
     exact (rkeyed_no a0 a1 hk w).mono fun e w' ⟨he, hw⟩ => ⟨he, hw ▸ Below.refl _ _⟩
   · rw [if_neg hk] at h
     obtain ⟨rfl, rfl⟩ := Prod.mk.inj (Option.some.inj h)
     exact rkeyed_ok a0 a1 (by omega) (by omega) hs w
 · rw [if_neg hs] at h
   cases h
end Go.Proofs.YtjlpjpjodhkpdaaGreatDoor
