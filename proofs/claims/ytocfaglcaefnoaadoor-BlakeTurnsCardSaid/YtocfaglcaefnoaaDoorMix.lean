/- THE MIXING CLOSURE OF blake.Block: it makes mixL of the words that it captured. -/
import Derived.Test.YtocfaglcaefnoaaDoorMath
import Derived.Test.YtocfaglcaefnoaaDoorRow
import Derived.Lib.Hide
import Derived.Deep.QuietTactic
import Derived.BigQuiet
set_option linter.unusedVariables false
set_option linter.unusedSimpArgs false
namespace Go.Proofs.YtocfaglcaefnoaaDoor
open Go.RowKit

/-- The words behind the first m of four stores. -/
def set4 (p q r s : Nat) (a b c d : Int) (v : List Int) : Nat → List Int
  | 0 => v
  | 1 => v.set p a
  | 2 => (v.set p a).set q b
  | 3 => ((v.set p a).set q b).set r c
  | _ => (((v.set p a).set q b).set r c).set s d
theorem set4_length (p q r s : Nat) (a b c d : Int) (v : List Int) (m : Nat) : (set4 p q r s a b c d v m).length = v.length := by
  unfold set4; split <;> simp

set_option maxHeartbeats 1000000 in
theorem mix_any (p q r s : Nat) (h0 : p < 16) (h1 : q < 16) (h2 : r < 16) (h3 : s < 16) (v : List Int) (hv : v.length = 16) (x y : Int) (w : World) (B : Nat) (hR : RowIs w B 50 (u32s v))
    :
    Calls Tryd.prog 23 #[.agg #[.int .u8 p, .int .u8 q, .int .u8 r, .int .u8 s], .int .u32 x, .int .u32 y, .pointer (some ⟨B, 0, none⟩)] w fun e w' =>
      e = .returned (.tuple #[]) ∧ w.grownBy w' (some B) ∧ RowIs w' B 50 (u32s (mixL p q r s x y v)) := by
  have HV := Lib.hid hv
  have ca := hR.cell (u32s_get v p (by omega))
  have cb := hR.cell (u32s_get v q (by omega))
  have cc := hR.cell (u32s_get v r (by omega))
  have cd := hR.cell (u32s_get v s (by omega))
  have hB := hR.lt
  clear hv
  generalize ha : v.getD p 0 = a at *
  generalize hb : v.getD q 0 = b at *
  generalize hc : v.getD r 0 = c at *
  generalize hd : v.getD s 0 = d at *
  have Ha := Lib.hid ha; have Hb := Lib.hid hb; have Hc := Lib.hid hc; have Hd := Lib.hid hd
  clear ha hb hc hd
  go_enter Tryd.func23, Tryd.ntmps23
  go_wp2
  go_quiet (fail)
  go_wp2_with fail
  refine (half1 _ _ _ _ _ _).mono ?_
  rintro e w' ⟨rfl, rfl⟩
  clear ca cb cc cd
  go_wp2_with fail
  have hP : RowIs ((w.alloc (.cells #[.int .u8 p, .int .u8 q, .int .u8 r, .int .u8 s] 51)).drewN nq) w.heap.size 51 [.int .u8 p, .int .u8 q, .int .u8 r, .int .u8 s] := RowIs.new _ _ _
  have hR' : RowIs ((w.alloc (.cells #[.int .u8 p, .int .u8 q, .int .u8 r, .int .u8 s] 51)).drewN nq) B 50 (u32s v) := (hR.alloc _).drewN nq
  have hG : w.grownBy ((w.alloc (.cells #[.int .u8 p, .int .u8 q, .int .u8 r, .int .u8 s] 51)).drewN nq) (some B) := grown_drewN (grown_alloc (World.grownBy.refl _ _) _) nq
  generalize (w.alloc (.cells #[.int .u8 p, .int .u8 q, .int .u8 r, .int .u8 s] 51)).drewN nq = W at *
  obtain ⟨A, hA'⟩ : ∃ A, A = hA (hA a b x) (YtocfaglcaefnoaaDoor.hB r16 r12 a b c d x) y := ⟨_, rfl⟩
  obtain ⟨D, hD'⟩ : ∃ D, D = hD r8 (hA a b x) (YtocfaglcaefnoaaDoor.hB r16 r12 a b c d x) (hD r16 a b d x) y := ⟨_, rfl⟩
  obtain ⟨C, hC'⟩ : ∃ C, C = hC r8 (hA a b x) (YtocfaglcaefnoaaDoor.hB r16 r12 a b c d x) (hC r16 a b c d x) (hD r16 a b d x) y := ⟨_, rfl⟩
  obtain ⟨B', hB'⟩ : ∃ B', B' = YtocfaglcaefnoaaDoor.hB r8 r7 (hA a b x) (YtocfaglcaefnoaaDoor.hB r16 r12 a b c d x) (hC r16 a b c d x) (hD r16 a b d x) y := ⟨_, rfl⟩
  have half2' : ∀ w, Calls Tryd.prog 24 #[.int .u32 (hA a b x), .int .u32 (YtocfaglcaefnoaaDoor.hB r16 r12 a b c d x), .int .u32 (hC r16 a b c d x), .int .u32 (hD r16 a b d x), .int .u32 y, .int .i64 8, .int .i64 7] w fun e w' =>
      e = .returned (.tuple #[.int .u32 A, .int .u32 B', .int .u32 C, .int .u32 D]) ∧ w = w' := fun w => by rw [hA', hB', hC', hD']; exact half2 _ _ _ _ _ _
  have hend : mixL p q r s x y v = set4 p q r s A B' C D v 4 := by
    unfold mixL set4
    rw [Ha.out, Hb.out, Hc.out, Hd.out, hA', hB', hC', hD']; rfl
  have i0 : (p : Int) < 16 := by omega
  have i1 : (q : Int) < 16 := by omega
  have i2 : (r : Int) < 16 := by omega
  have i3 : (s : Int) < 16 := by omega
  have H2 := Lib.hid half2'; have HE := Lib.hid hend
  clear hA' hB' hC' hD' half2' hend
  refine Fam.wp_region_fam [20, 22, 24, 26] (fun m w' => RowIs w' w.heap.size 51 [.int .u8 p, .int .u8 q, .int .u8 r, .int .u8 s] ∧ w.grownBy w' (some B) ∧ RowIs w' B 50 (u32s (set4 p q r s A B' C D v m))) (by kernel_rfl) (by kernel_rfl) ⟨hP, grown_drew hG, hR'⟩ ?_
  refine Fam.any_ ?_ (by rfl) (by rfl) (fun w => ?_) ?_
  rotate_left
  · go_simp; rfl
  simp only [Act.put, List.setIfInBounds_toArray, List.set_cons_zero, List.set_cons_succ]
  refine Fam.read_ ?_ (by rfl) (by rfl) (fun m' _ u hu => ?_) ?_
  rotate_left
  · have c0 := hu.1.cell (i := 0) rfl; clear hu; go_simp; rfl
  simp only [Act.put, List.setIfInBounds_toArray, List.set_cons_zero, List.set_cons_succ]
  refine Fam.any_ ?_ (by rfl) (by rfl) (fun w => ?_) ?_
  rotate_left
  · go_simp; rfl
  simp only [Act.put, List.setIfInBounds_toArray, List.set_cons_zero, List.set_cons_succ]
  refine Fam.read_ ?_ (by rfl) (by rfl) (fun m' _ u hu => ?_) ?_
  rotate_left
  · have c0 := hu.1.cell (i := 1) rfl; clear hu; go_simp; rfl
  simp only [Act.put, List.setIfInBounds_toArray, List.set_cons_zero, List.set_cons_succ]
  refine Fam.any_ ?_ (by rfl) (by rfl) (fun w => ?_) ?_
  rotate_left
  · go_simp; rfl
  simp only [Act.put, List.setIfInBounds_toArray, List.set_cons_zero, List.set_cons_succ]
  refine Fam.read_ ?_ (by rfl) (by rfl) (fun m' _ u hu => ?_) ?_
  rotate_left
  · have c0 := hu.1.cell (i := 2) rfl; clear hu; go_simp; rfl
  simp only [Act.put, List.setIfInBounds_toArray, List.set_cons_zero, List.set_cons_succ]
  refine Fam.any_ ?_ (by rfl) (by rfl) (fun w => ?_) ?_
  rotate_left
  · go_simp; rfl
  simp only [Act.put, List.setIfInBounds_toArray, List.set_cons_zero, List.set_cons_succ]
  refine Fam.read_ ?_ (by rfl) (by rfl) (fun m' _ u hu => ?_) ?_
  rotate_left
  · have c0 := hu.1.cell (i := 3) rfl; clear hu; go_simp; rfl
  simp only [Act.put, List.setIfInBounds_toArray, List.set_cons_zero, List.set_cons_succ]
  refine Fam.any_ ?_ (by rfl) (by rfl) (fun w => ?_) ?_
  rotate_left
  · go_simp; rfl
  simp only [Act.put, List.setIfInBounds_toArray, List.set_cons_zero, List.set_cons_succ]
  refine Fam.any_ ?_ (by rfl) (by rfl) (fun w => ?_) ?_
  rotate_left
  · go_simp; rfl
  simp only [Act.put, List.setIfInBounds_toArray, List.set_cons_zero, List.set_cons_succ]
  refine Fam.any_ ?_ (by rfl) (by rfl) (fun w => ?_) ?_
  rotate_left
  · go_simp; rfl
  simp only [Act.put, List.setIfInBounds_toArray, List.set_cons_zero, List.set_cons_succ]
  refine Fam.any_ ?_ (by rfl) (by rfl) (fun w => ?_) ?_
  rotate_left
  · go_simp; rfl
  simp only [Act.put, List.setIfInBounds_toArray, List.set_cons_zero, List.set_cons_succ]
  refine Fam.any_ ?_ (by rfl) (by rfl) (fun w => ?_) ?_
  rotate_left
  · go_simp; rfl
  simp only [Act.put, List.setIfInBounds_toArray, List.set_cons_zero, List.set_cons_succ]
  refine Fam.call_ (.tuple #[.int .u32 A, .int .u32 B', .int .u32 C, .int .u32 D]) 24 ?_ (by rfl) (by rfl) (fun w => ?_) (fun m' _ u hu => ?_) ?_
  rotate_left
  · go_simp; rfl
  · exact (H2.out u).mono fun e u' ⟨he, hw⟩ => ⟨he, hw ▸ hu⟩
  simp only [Act.put, List.setIfInBounds_toArray, List.set_cons_zero, List.set_cons_succ]
  refine Fam.any_ ?_ (by rfl) (by rfl) (fun w => ?_) ?_
  rotate_left
  · go_simp; rfl
  simp only [Act.put, List.setIfInBounds_toArray, List.set_cons_zero, List.set_cons_succ]
  refine Fam.any_ ?_ (by rfl) (by rfl) (fun w => ?_) ?_
  rotate_left
  · go_simp; rfl
  simp only [Act.put, List.setIfInBounds_toArray, List.set_cons_zero, List.set_cons_succ]
  refine Fam.any_ ?_ (by rfl) (by rfl) (fun w => ?_) ?_
  rotate_left
  · go_simp; rfl
  simp only [Act.put, List.setIfInBounds_toArray, List.set_cons_zero, List.set_cons_succ]
  refine Fam.any_ ?_ (by rfl) (by rfl) (fun w => ?_) ?_
  rotate_left
  · go_simp; rfl
  simp only [Act.put, List.setIfInBounds_toArray, List.set_cons_zero, List.set_cons_succ]
  refine Fam.any_ ?_ (by rfl) (by rfl) (fun w => ?_) ?_
  rotate_left
  · go_simp; rfl
  simp only [Act.put, List.setIfInBounds_toArray, List.set_cons_zero, List.set_cons_succ]
  refine Fam.any_ ?_ (by rfl) (by rfl) (fun w => ?_) ?_
  rotate_left
  · go_simp; rfl
  simp only [Act.put, List.setIfInBounds_toArray, List.set_cons_zero, List.set_cons_succ]
  refine Fam.store_ (by rfl) (by rfl) (fun u hu => ?_) ?_
  · obtain ⟨hP2, hG2, hR2⟩ := hu
    have c := hR2.cell (u32s_get _ p (by rw [set4_length, HV.out]; omega)); have f := hR2.frozen p; have ff := hR2.set p (.int .u32 A); rw [u32s_set] at ff
    refine ⟨u.setCell ⟨B, p, none⟩ (.int .u32 A), ?_, hP2.other (by simp; omega) _, grown_setCell hG2 _ _, ff⟩
    clear hP2 hG2 hR2 ff
    go_simp
  simp only [Act.put, List.setIfInBounds_toArray, List.set_cons_zero, List.set_cons_succ]
  refine Fam.any_ ?_ (by rfl) (by rfl) (fun w => ?_) ?_
  rotate_left
  · go_simp; rfl
  simp only [Act.put, List.setIfInBounds_toArray, List.set_cons_zero, List.set_cons_succ]
  refine Fam.store_ (by rfl) (by rfl) (fun u hu => ?_) ?_
  · obtain ⟨hP2, hG2, hR2⟩ := hu
    have c := hR2.cell (u32s_get _ q (by rw [set4_length, HV.out]; omega)); have f := hR2.frozen q; have ff := hR2.set q (.int .u32 B'); rw [u32s_set] at ff
    refine ⟨u.setCell ⟨B, q, none⟩ (.int .u32 B'), ?_, hP2.other (by simp; omega) _, grown_setCell hG2 _ _, ff⟩
    clear hP2 hG2 hR2 ff
    go_simp
  simp only [Act.put, List.setIfInBounds_toArray, List.set_cons_zero, List.set_cons_succ]
  refine Fam.any_ ?_ (by rfl) (by rfl) (fun w => ?_) ?_
  rotate_left
  · go_simp; rfl
  simp only [Act.put, List.setIfInBounds_toArray, List.set_cons_zero, List.set_cons_succ]
  refine Fam.store_ (by rfl) (by rfl) (fun u hu => ?_) ?_
  · obtain ⟨hP2, hG2, hR2⟩ := hu
    have c := hR2.cell (u32s_get _ r (by rw [set4_length, HV.out]; omega)); have f := hR2.frozen r; have ff := hR2.set r (.int .u32 C); rw [u32s_set] at ff
    refine ⟨u.setCell ⟨B, r, none⟩ (.int .u32 C), ?_, hP2.other (by simp; omega) _, grown_setCell hG2 _ _, ff⟩
    clear hP2 hG2 hR2 ff
    go_simp
  simp only [Act.put, List.setIfInBounds_toArray, List.set_cons_zero, List.set_cons_succ]
  refine Fam.any_ ?_ (by rfl) (by rfl) (fun w => ?_) ?_
  rotate_left
  · go_simp; rfl
  simp only [Act.put, List.setIfInBounds_toArray, List.set_cons_zero, List.set_cons_succ]
  refine Fam.store_ (by rfl) (by rfl) (fun u hu => ?_) ?_
  · obtain ⟨hP2, hG2, hR2⟩ := hu
    have c := hR2.cell (u32s_get _ s (by rw [set4_length, HV.out]; omega)); have f := hR2.frozen s; have ff := hR2.set s (.int .u32 D); rw [u32s_set] at ff
    refine ⟨u.setCell ⟨B, s, none⟩ (.int .u32 D), ?_, hP2.other (by simp; omega) _, grown_setCell hG2 _ _, ff⟩
    clear hP2 hG2 hR2 ff
    go_simp
  simp only [Act.put, List.setIfInBounds_toArray, List.set_cons_zero, List.set_cons_succ]
  refine Fam.nil_ ?_
  rintro u ⟨hP2, hG2, hR2⟩
  go_end0
  exact ⟨rfl, hG2, by rw [HE.out]; exact hR2⟩
end Go.Proofs.YtocfaglcaefnoaaDoor
