/- blake.Block: every state, every block of 64 bytes, every count: it makes blockL. · blake.Start, and blake.Block of another length. -/
import Derived.Test.YtjlpjpjodhkpdaaGreatDoorBase
import Derived.StillTailTactics
set_option maxHeartbeats 1000000
set_option linter.unusedVariables false
set_option linter.unusedSimpArgs false
namespace Go.Proofs.YtjlpjpjodhkpdaaGreatDoor
open Go.RowKit
def BS (w : World) (h m v : List Int) (u : World) : Prop :=
 RowIs u w.heap.size 95 (u32s h) ∧ RowIs u (w.heap.size + 1) 95 (u32s [0, 0, 0, 0, 0, 0, 0, 0]) ∧ RowIs u (w.heap.size + 1 + 1) 159 (u32s m) ∧ RowIs u (w.heap.size + 1 + 1 + 1) 159 (u32s v) ∧ Below w.heap.size w u
section
variable {w u : World} {h m v : List Int}
theorem BS.drew (b : BS w h m v u) : BS w h m v u.drew := ⟨b.1, b.2.1, b.2.2.1, b.2.2.2.1, b.2.2.2.2.drew⟩
theorem BS.setM (b : BS w h m v u) (i : Nat) (x : Int) : BS w h (m.set i x) v (u.setCell ⟨w.heap.size + 1 + 1, i, none⟩ (.int .u32 x)) := by
 obtain ⟨q0, q1, q2, q3, q4⟩ := b
 have e := q2.set i (.int .u32 x)
 rw [u32s_set] at e
 exact ⟨q0.other (by show _ ≠ w.heap.size + 1 + 1; omega) _, q1.other (by show _ ≠ w.heap.size + 1 + 1; omega) _, e, q3.other (by show _ ≠ w.heap.size + 1 + 1; omega) _, q4.setCell (by show _ ≤ w.heap.size + 1 + 1; omega) _⟩
theorem BS.setV (b : BS w h m v u) (i : Nat) (x : Int) : BS w h m (v.set i x) (u.setCell ⟨w.heap.size + 1 + 1 + 1, i, none⟩ (.int .u32 x)) := by
 obtain ⟨q0, q1, q2, q3, q4⟩ := b
 have e := q3.set i (.int .u32 x)
 rw [u32s_set] at e
 exact ⟨q0.other (by show _ ≠ w.heap.size + 1 + 1 + 1; omega) _, q1.other (by show _ ≠ w.heap.size + 1 + 1 + 1; omega) _, q2.other (by show _ ≠ w.heap.size + 1 + 1 + 1; omega) _, e, q4.setCell (by show _ ≤ w.heap.size + 1 + 1 + 1; omega) _⟩
theorem BS.setH (b : BS w h m v u) (i : Nat) (x : Int) : BS w (h.set i x) m v (u.setCell ⟨w.heap.size, i, none⟩ (.int .u32 x)) := by
 obtain ⟨q0, q1, q2, q3, q4⟩ := b
 have e := q0.set i (.int .u32 x)
 rw [u32s_set] at e
 exact ⟨e, q1.other (by show _ ≠ w.heap.size; omega) _, q2.other (by show _ ≠ w.heap.size; omega) _, q3.other (by show _ ≠ w.heap.size; omega) _, q4.setCell (Nat.le_refl _) _⟩
theorem BS.mixed (b : BS w h m v u) {u' : World} {v' : List Int} (hg : u.grownBy u' (some (w.heap.size + 1 + 1 + 1))) (hr : RowIs u' (w.heap.size + 1 + 1 + 1) 159 (u32s v')) : BS w h m v' u' := by
 obtain ⟨q0, q1, q2, q3, q4⟩ := b
 exact ⟨q0.grown hg (by simp; omega), q1.grown hg (by simp), q2.grown hg (by simp), hr, q4.grown hg (by have := q0.lt; omega) (by intro k e; cases e; omega)⟩
theorem BS.hcell (b : BS w h m v u) (i : Nat) (hi : i < h.length) : u.cell? ⟨w.heap.size, i, none⟩ = some (.int .u32 (h.getD i 0)) := b.1.cell (u32s_get h i hi)
theorem BS.mcell (b : BS w h m v u) (i : Nat) (hi : i < m.length) : u.cell? ⟨w.heap.size + 1 + 1, i, none⟩ = some (.int .u32 (m.getD i 0)) := b.2.2.1.cell (u32s_get m i hi)
theorem BS.vcell (b : BS w h m v u) (i : Nat) (hi : i < v.length) : u.cell? ⟨w.heap.size + 1 + 1 + 1, i, none⟩ = some (.int .u32 (v.getD i 0)) := b.2.2.2.1.cell (u32s_get v i hi)
theorem BS.hfree (b : BS w h m v u) (i : Nat) : u.frozen? ⟨w.heap.size, i, none⟩ = false := b.1.frozen i
theorem BS.mfree (b : BS w h m v u) (i : Nat) : u.frozen? ⟨w.heap.size + 1 + 1, i, none⟩ = false := b.2.2.1.frozen i
theorem BS.vfree (b : BS w h m v u) (i : Nat) : u.frozen? ⟨w.heap.size + 1 + 1 + 1, i, none⟩ = false := b.2.2.2.1.frozen i
theorem BS.tabs (b : BS w h m v u) (hT : Tabs w) : Tabs u := hT.below b.2.2.2.2 hT.size
end
theorem block_ok (h : List Int) (hh : h.length = 8) (s : ByteArray) (hs : s.size = 64) (t : Int) (last : Bool) (w : World) (hT : Tabs w) :
 Calls Tryz.prog 135 #[.agg (u32s h).toArray, .string s, .int .u64 t, .bool last] w fun e w' =>
  e = .returned (.tuple #[.agg (u32s (blockL h s t last)).toArray, .int .i64 0]) ∧ Below w.heap.size w w' := by
 have HH := Lib.hid hh
 have HS := Lib.hid hs
 have b1 : ((s.size : Int) != 64) = false := by rw [hs]; rfl
 clear hh hs
 go_enter Tryz.func135, Tryz.ntmps135
 go_wp2
 have hBS : BS w h (mpart s 0) (List.replicate 16 0) ((((w.alloc (.cells (u32s h).toArray 95)).alloc (.cells (u32s [0, 0, 0, 0, 0, 0, 0, 0]).toArray 95)).alloc (.cells (u32s (mpart s 0)).toArray 159)).alloc (.cells (u32s (List.replicate 16 0)).toArray 159)) := by
  refine ⟨?_, ?_, ?_, ?_, ?_⟩
  · exact (((RowIs.new _ _ _).alloc _).alloc _).alloc _
  · have := ((RowIs.new (w.alloc (.cells (u32s h).toArray 95)) 95 (u32s [0, 0, 0, 0, 0, 0, 0, 0])).alloc (.cells (u32s (mpart s 0)).toArray 159)).alloc (.cells (u32s (List.replicate 16 0)).toArray 159)
    rw [World.size_alloc] at this; exact this
  · have := (RowIs.new ((w.alloc (.cells (u32s h).toArray 95)).alloc (.cells (u32s [0, 0, 0, 0, 0, 0, 0, 0]).toArray 95)) 159 (u32s (mpart s 0))).alloc (.cells (u32s (List.replicate 16 0)).toArray 159)
    rw [World.size_alloc, World.size_alloc] at this; exact this
  · have := RowIs.new (((w.alloc (.cells (u32s h).toArray 95)).alloc (.cells (u32s [0, 0, 0, 0, 0, 0, 0, 0]).toArray 95)).alloc (.cells (u32s (mpart s 0)).toArray 159)) 159 (u32s (List.replicate 16 0))
    rw [World.size_alloc, World.size_alloc, World.size_alloc] at this; exact this
  · exact ((((Below.refl _ _).alloc (Nat.le_refl _) _).alloc (by simp) _).alloc (by simp; omega) _).alloc (by simp; omega) _
 have e0 : (u32s (mpart s 0)).toArray = #[.int .u32 0, .int .u32 0, .int .u32 0, .int .u32 0, .int .u32 0, .int .u32 0, .int .u32 0, .int .u32 0, .int .u32 0, .int .u32 0, .int .u32 0, .int .u32 0, .int .u32 0, .int .u32 0, .int .u32 0, .int .u32 0] := rfl
 have e1 : (u32s (List.replicate 16 0)).toArray = #[.int .u32 0, .int .u32 0, .int .u32 0, .int .u32 0, .int .u32 0, .int .u32 0, .int .u32 0, .int .u32 0, .int .u32 0, .int .u32 0, .int .u32 0, .int .u32 0, .int .u32 0, .int .u32 0, .int .u32 0, .int .u32 0] := rfl
 have e2 : (u32s [0, 0, 0, 0, 0, 0, 0, 0]).toArray = #[.int .u32 0, .int .u32 0, .int .u32 0, .int .u32 0, .int .u32 0, .int .u32 0, .int .u32 0, .int .u32 0] := rfl
 rw [e0, e1, e2] at hBS
 clear e0 e1 e2
 generalize World.alloc _ _ = W at *
 go_loopw [23] (fun c u => ∃ k : Nat, k ≤ 16 ∧ c = .int .i64 k ∧ BS w h (mpart s k) (List.replicate 16 0) u) (fun c _ => 16 - (intOf c).toNat)
 case atStart => exact ⟨0, by omega, rfl, hBS⟩
 case round =>
  clear hBS
  obtain ⟨k, hk, rfl, hB⟩ := hrel
  by_cases hlt : k < 16
  · go_wp2
    obtain ⟨wo, rfl⟩ : ∃ wo : World, wo = wr := ⟨_, rfl⟩
    go_loopw [13] (fun c u => ∃ j : Nat, j ≤ 4 ∧ c = .int .i64 ((j : Int) - 1) ∧ BS w h ((mpart s k).set k (wacc s k (4 - j))) (List.replicate 16 0) u) (fun c _ => (intOf c + 1).toNat)
    case atStart => exact ⟨4, by omega, rfl, by show BS w h ((mpart s k).set k 0) _ _; rw [mpart_zero]; exact hB⟩
    case round =>
     clear hB
     obtain ⟨j, hj, rfl, hB⟩ := hrel
     by_cases hj0 : j = 0
     · subst hj0
       have hB2 : BS w h (mpart s (k + 1)) (List.replicate 16 0) wr := by have := hB; rw [show 4 - 0 = 4 from rfl, show wacc s k 4 = word s k from rfl, mpart_next s k hlt] at this; exact this
       clear hB
       go_wp2
       go_roundw
       case rel => exact ⟨k + 1, by omega, by go_num, hB2⟩
       case measure => first | (simp [intOf]; done) | (simp [intOf]; omega)
     · obtain ⟨j, rfl⟩ : ∃ i, j = i + 1 := ⟨j - 1, by omega⟩
       have ej : (((j + 1 : Nat) : Int) - 1) = (j : Int) := by omega
       have e4 : 4 - (j + 1) = 3 - j + 0 := by omega
       rw [ej]
       rw [e4] at hB
       clear ej e4 hj0
       have hj3 : j < 4 := by omega
       have hx : 4 * k + j < s.size := by rw [HS.out]; omega
       have hx1 : (0 : Int) ≤ 4 * (k : Int) + (j : Int) := by omega
       have hx3 : 4 * (k : Int) + (j : Int) < (s.size : Int) := by omega
       have hor : bits .or .u32 (wacc s k (3 - j) * 256 % 4294967296) (byt s (4 * k + j) % 4294967296) = wacc s k (3 - j + 1) := by
        have hr := wacc_range s k
        have hb := byt_range s (4 * k + j)
        have h3 : wacc s k (3 - j) < 16777216 ∧ 0 ≤ wacc s k (3 - j) := by
         rcases (show j = 0 ∨ j = 1 ∨ j = 2 ∨ j = 3 by omega) with rfl | rfl | rfl | rfl
         · exact ⟨hr.2.2.2.2.2.2.2.1, hr.2.2.2.2.2.2.1⟩
         · exact ⟨Int.lt_trans hr.2.2.2.2.2.1 (by decide), hr.2.2.2.2.1⟩
         · exact ⟨Int.lt_trans hr.2.2.2.1 (by decide), hr.2.2.1⟩
         · exact ⟨Int.lt_trans hr.2.1 (by decide), hr.1⟩
        rw [show byt s (4 * k + j) % 4294967296 = byt s (4 * k + j) by omega, or_byte _ _ h3.2 h3.1 hb.1 hb.2]
        show _ = wacc s k (3 - j) * 256 + byt s (4 * k + (3 - (3 - j)))
        rw [show 3 - (3 - j) = j by omega]
       replace hor := Lib.hid hor
       go_wp2
       refine Fam.wp_region_fam [14] (fun m u => BS w h ((mpart s k).set k (wacc s k (3 - j + m))) (List.replicate 16 0) u) (by kernel_rfl) (by kernel_rfl) hB.drew ?_
       iterate 3 (refine Fam.pure_ (by rfl) (by rfl) rfl (fun K hK => ?_); go_big_quiet_op; refine hK _ ?_; clear hK K)
       refine Fam.read_ ?_ (by rfl) (by rfl) (fun m' _ u hu => ?_) ?_
       rotate_left
       · obtain rfl : m' = 0 := by have := Fam.inR_le ‹_› 0 (by decide) (by kernel_rfl); omega
         have c0 := hu.mcell k (by rw [List.length_set, mpart_length s k (by omega)]; omega)
         rw [mpart_at s k (by omega)] at c0; clear hu; go_simp; rfl
       simp only [Act.put, List.setIfInBounds_toArray, List.set_cons_zero, List.set_cons_succ]
       iterate 10 (refine Fam.pure_ (by rfl) (by rfl) rfl (fun K hK => ?_); go_big_quiet_op; refine hK _ ?_; clear hK K)
       refine Fam.store_ (by rfl) (by rfl) (fun u hu => ?_) ?_
       · have c0 := hu.mcell k (by rw [List.length_set, mpart_length s k (by omega)]; omega); have f0 := hu.mfree k; have g0 := hu.setM k (wacc s k (3 - j + 1)); rw [List.set_set] at g0
         refine ⟨_, ?_, g0⟩
         clear g0 hu
         rw [byt_at s _ hx, hor.out]
         go_simp
       try simp only [Act.put, List.setIfInBounds_toArray, List.set_cons_zero, List.set_cons_succ]
       refine Fam.nil_ ?_
       intro u hu
       go_wp2
       go_roundw
       case rel => exact ⟨j, by omega, by go_num, by rw [show 4 - j = 3 - j + 1 by omega]; exact hu⟩
       case measure => first | (simp [intOf]; done) | (simp [intOf]; omega)
  · obtain rfl : k = 16 := by omega
    rw [mpart_all] at hB
    have hB0 : BS w h (wordsL s) (vpart h 0) wr := by rw [vpart_zero]; exact hB
    clear hB
    go_wp2
    obtain ⟨wo, rfl⟩ : ∃ wo : World, wo = wr := ⟨_, rfl⟩
    go_loopw [45] (fun c u => ∃ k : Nat, k ≤ 8 ∧ c = .int .i64 k ∧ BS w h (wordsL s) (vpart h k) u) (fun c _ => 8 - (intOf c).toNat)
    case atStart => exact ⟨0, by omega, rfl, hB0⟩
    case round =>
    clear hB0
    obtain ⟨k, hk, rfl, hB⟩ := hrel
    by_cases hlt : k < 8
    · have hB : BS w h (wordsL s) (vset h k 0) wr := hB
      have i0 : (k : Int) < 8 := by omega
      have i1 : (k : Int) + 8 < 16 := by omega
      have i2 : (k : Int) < 16 := by omega
      go_wp2
      refine Fam.wp_region_fam [10, 12] (fun m u => BS w h (wordsL s) (vset h k m) u) (by kernel_rfl) (by kernel_rfl) hB.drew ?_
      iterate 5 (refine Fam.pure_ (by rfl) (by rfl) rfl (fun K hK => ?_); go_big_quiet_op; refine hK _ ?_; clear hK K)
      refine Fam.read_ ?_ (by rfl) (by rfl) (fun m' _ u hu => ?_) ?_
      rotate_left
      · have c0 := hu.hcell k (by rw [HH.out]; omega); clear hu; go_simp; rfl
      simp only [Act.put, List.setIfInBounds_toArray, List.set_cons_zero, List.set_cons_succ]
      iterate 2 (refine Fam.pure_ (by rfl) (by rfl) rfl (fun K hK => ?_); go_big_quiet_op; refine hK _ ?_; clear hK K)
      refine Fam.read_ ?_ (by rfl) (by rfl) (fun m' _ u hu => ?_) ?_
      rotate_left
      · have c0 := (hu.tabs hT).begin k (by omega); clear hu; go_simp; rfl
      simp only [Act.put, List.setIfInBounds_toArray, List.set_cons_zero, List.set_cons_succ]
      refine Fam.pure_ (by rfl) (by rfl) rfl (fun K hK => ?_)
      go_big_quiet_op
      refine hK _ ?_
      clear hK K
      refine Fam.store_ (by rfl) (by rfl) (fun u hu => ?_) ?_
      · have c0 := hu.vcell k (by rw [vset_length h HH.out k _ (by omega)]; omega); have f0 := hu.vfree k; have g0 := hu.setV k (h.getD k 0)
        refine ⟨_, ?_, g0⟩
        clear g0 hu
        go_simp
      try simp only [Act.put, List.setIfInBounds_toArray, List.set_cons_zero, List.set_cons_succ]
      refine Fam.pure_ (by rfl) (by rfl) rfl (fun K hK => ?_)
      go_big_quiet_op
      refine hK _ ?_
      clear hK K
      refine Fam.store_ (by rfl) (by rfl) (fun u hu => ?_) ?_
      · have c0 := hu.vcell (k + 8) (by rw [vset_length h HH.out k _ (by omega)]; omega); have f0 := hu.vfree (k + 8); have g0 := hu.setV (k + 8) (begins.getD k 0)
        refine ⟨_, ?_, g0⟩
        clear g0 hu
        go_simp
      try simp only [Act.put, List.setIfInBounds_toArray, List.set_cons_zero, List.set_cons_succ]
      refine Fam.nil_ ?_
      intro u hu
      go_wp2
      go_roundw
      case rel => exact ⟨k + 1, by omega, by go_num, by rw [← vset_next h HH.out k hlt]; exact hu⟩
      case measure => first | (simp [intOf]; done) | (simp [intOf]; omega)
    · obtain rfl : k = 8 := by omega
      have hv8 : BS w h (wordsL s) (h ++ begins) wr := by rw [← vpart_all h HH.out]; exact hB
      clear hB
      have c12 := hv8.vcell 12 (by simp [HH.out, begins])
      obtain ⟨x12, e12⟩ : ∃ x, x = (h ++ begins).getD 12 0 := ⟨_, rfl⟩
      rw [← e12] at c12
      have E12 := Lib.hid e12
      clear e12
      have f12 := hv8.vfree 12
      have c13 := hv8.vcell 13 (by simp [HH.out, begins])
      obtain ⟨x13, e13⟩ : ∃ x, x = (h ++ begins).getD 13 0 := ⟨_, rfl⟩
      rw [← e13] at c13
      have E13 := Lib.hid e13
      clear e13
      have f13 := hv8.vfree 13
      have c14 := hv8.vcell 14 (by simp [HH.out, begins])
      obtain ⟨x14, e14⟩ : ∃ x, x = (h ++ begins).getD 14 0 := ⟨_, rfl⟩
      rw [← e14] at c14
      have E14 := Lib.hid e14
      clear e14
      have f14 := hv8.vfree 14
      have hV : BS w h (wordsL s) (vstart h t last) (if last then ((wr.setCell ⟨w.heap.size + 1 + 1 + 1, 12, none⟩ (.int .u32 (bits .xor .u32 x12 (t % 4294967296)))).setCell ⟨w.heap.size + 1 + 1 + 1, 13, none⟩ (.int .u32 (bits .xor .u32 x13 (t / 4294967296 % 4294967296)))).setCell ⟨w.heap.size + 1 + 1 + 1, 14, none⟩ (.int .u32 (bits .xor .u32 IntKind.u32.max x14))
       else (wr.setCell ⟨w.heap.size + 1 + 1 + 1, 12, none⟩ (.int .u32 (bits .xor .u32 x12 (t % 4294967296)))).setCell ⟨w.heap.size + 1 + 1 + 1, 13, none⟩ (.int .u32 (bits .xor .u32 x13 (t / 4294967296 % 4294967296)))) := by
       unfold vstart
       dsimp only
       rw [← E12.out, ← E13.out, ← E14.out]
       cases last
       · exact (hv8.setV _ _).setV _ _
       · exact ((hv8.setV _ _).setV _ _).setV _ _
      have hL := Lib.hid (vstart_length h HH.out t last)
      have hW := Lib.hid (show (wordsL s).length = 16 by simp [wordsL])
      clear hv8 E12 E13 E14
      have hsg : IntKind.u32.signed = false := rfl
      cases last
      all_goals
       simp only [if_true, Bool.false_eq_true, if_false] at hV
       go_wp2
       clear c12 c13 c14 f12 f13 f14
       generalize World.setCell _ _ _ = W at *
       clear hsg
       generalize hV0 : vstart h t _ = V0 at *
       replace hV0 := Lib.hid hV0
       go_loopw [79] (fun c u => ∃ r : Nat, r ≤ 10 ∧ c = .int .i64 r ∧ BS w h (wordsL s) (roundsL (wordsL s) r V0) u) (fun c _ => 10 - (intOf c).toNat)
       case atStart => exact ⟨0, by omega, rfl, hV⟩
       case round =>
        clear hV
        obtain ⟨r, hr, rfl, hB⟩ := hrel
        by_cases hlr : r < 10
        · go_wp2
          obtain ⟨wo, rfl⟩ : ∃ wo : World, wo = wr := ⟨_, rfl⟩
          go_loopw [82] (fun c u => ∃ i : Nat, i ≤ 8 ∧ c = .int .i64 i ∧ BS w h (wordsL s) (roundL (wordsL s) r i (roundsL (wordsL s) r V0)) u) (fun c _ => 8 - (intOf c).toNat)
          case atStart => exact ⟨0, by omega, rfl, hB⟩
          case round =>
           clear hB
           obtain ⟨i, hi, rfl, hB⟩ := hrel
           by_cases hli : i < 8
           · go_wp2
             have hl0 := Lib.hid (show (roundL (wordsL s) r i (roundsL (wordsL s) r V0)).length = 16 by rw [roundL_length, roundsL_length, hL.out])
             have i0 : (i : Int) < 8 := by omega
             have i1 : (r : Int) < 10 := by omega
             have i2 : 2 * (i : Int) < 16 := by omega
             have i3 : 2 * (i : Int) + 1 < 16 := by omega
             have i4 : ((od r (2 * i) : Nat) : Int) < 16 := by have := od_lt r hlr (2 * i) (by omega); omega
             have i5 : ((od r (2 * i + 1) : Nat) : Int) < 16 := by have := od_lt r hlr (2 * i + 1) (by omega); omega
             skip
             refine Fam.wp_region_fam [21] (fun m u => BS w h (wordsL s) (roundL (wordsL s) r (i + m) (roundsL (wordsL s) r V0)) u) (by kernel_rfl) (by kernel_rfl) hB.drew ?_
             iterate 3 (refine Fam.pure_ (by rfl) (by rfl) rfl (fun K hK => ?_); go_big_quiet_op; refine hK _ ?_; clear hK K)
             refine Fam.read_ ?_ (by rfl) (by rfl) (fun m' _ u hu => ?_) ?_
             rotate_left
             · have q0 := (hu.tabs hT).mixing i 0 (by omega) (by omega); rw [Nat.add_zero] at q0; have q1 := (hu.tabs hT).mixing i 1 (by omega) (by omega); have q2 := (hu.tabs hT).mixing i 2 (by omega) (by omega); have q3 := (hu.tabs hT).mixing i 3 (by omega) (by omega); clear hu; go_simp; rfl
             simp only [Act.put, List.setIfInBounds_toArray, List.set_cons_zero, List.set_cons_succ]
             iterate 5 (refine Fam.pure_ (by rfl) (by rfl) rfl (fun K hK => ?_); go_big_quiet_op; refine hK _ ?_; clear hK K)
             refine Fam.read_ ?_ (by rfl) (by rfl) (fun m' _ u hu => ?_) ?_
             rotate_left
             · have q0 := (hu.tabs hT).order r (2 * i) (by omega) (by omega); clear hu; go_simp; rfl
             simp only [Act.put, List.setIfInBounds_toArray, List.set_cons_zero, List.set_cons_succ]
             refine Fam.pure_ (by rfl) (by rfl) rfl (fun K hK => ?_)
             go_big_quiet_op
             refine hK _ ?_
             clear hK K
             refine Fam.read_ ?_ (by rfl) (by rfl) (fun m' _ u hu => ?_) ?_
             rotate_left
             · have q0 := hu.mcell (od r (2 * i)) (by rw [hW.out]; omega); clear hu; go_simp; rfl
             simp only [Act.put, List.setIfInBounds_toArray, List.set_cons_zero, List.set_cons_succ]
             iterate 6 (refine Fam.pure_ (by rfl) (by rfl) rfl (fun K hK => ?_); go_big_quiet_op; refine hK _ ?_; clear hK K)
             refine Fam.read_ ?_ (by rfl) (by rfl) (fun m' _ u hu => ?_) ?_
             rotate_left
             · have q0 := (hu.tabs hT).order r (2 * i + 1) (by omega) (by omega); clear hu; go_simp; rfl
             simp only [Act.put, List.setIfInBounds_toArray, List.set_cons_zero, List.set_cons_succ]
             refine Fam.pure_ (by rfl) (by rfl) rfl (fun K hK => ?_)
             go_big_quiet_op
             refine hK _ ?_
             clear hK K
             refine Fam.read_ ?_ (by rfl) (by rfl) (fun m' _ u hu => ?_) ?_
             rotate_left
             · have q0 := hu.mcell (od r (2 * i + 1)) (by rw [hW.out]; omega); clear hu; go_simp; rfl
             simp only [Act.put, List.setIfInBounds_toArray, List.set_cons_zero, List.set_cons_succ]
             refine Fam.effCall_ (.tuple #[]) 140 ?_ (by rfl) (by rfl) (fun w => ?_) (fun u hu => ?_) ?_
             rotate_left
             · go_simp; rfl
             · exact (mix_any (mx i 0) (mx i 1) (mx i 2) (mx i 3) (mx_lt i hli 0 (by omega)) (mx_lt i hli 1 (by omega)) (mx_lt i hli 2 (by omega)) (mx_lt i hli 3 (by omega)) _ (by rw [roundL_length, roundsL_length, hL.out]) _ _ u _ hu.2.2.2.1).mono fun e u' ⟨he, hg, hr⟩ => ⟨he, hu.mixed hg hr⟩
             simp only [Act.put, List.setIfInBounds_toArray, List.set_cons_zero, List.set_cons_succ]
             refine Fam.nil_ ?_
             intro u hu
             go_wp2
             go_roundw
             case rel => exact ⟨i + 1, by omega, by go_num, hu⟩
             case measure => first | (simp [intOf]; done) | (simp [intOf]; omega)
           · obtain rfl : i = 8 := by omega
             go_wp2
             go_roundw
             case rel => exact ⟨r + 1, by omega, by go_num, hB⟩
             case measure => first | (simp [intOf]; done) | (simp [intOf]; omega)
        · obtain rfl : r = 10 := by omega
          have hVL := Lib.hid (show (roundsL (wordsL s) 10 V0).length = 16 by rw [roundsL_length, hL.out])
          have hB0 : BS w (hpart h (roundsL (wordsL s) 10 V0) 0) (wordsL s) (roundsL (wordsL s) 10 V0) wr := by rw [hpart_zero h _ HH.out]; exact hB
          clear hB
          go_wp2
          obtain ⟨wo, rfl⟩ : ∃ wo : World, wo = wr := ⟨_, rfl⟩
          go_loopw [109] (fun c u => ∃ k : Nat, k ≤ 8 ∧ c = .int .i64 k ∧ BS w (hpart h (roundsL (wordsL s) 10 V0) k) (wordsL s) (roundsL (wordsL s) 10 V0) u) (fun c _ => 8 - (intOf c).toNat)
          case atStart => exact ⟨0, by omega, rfl, hB0⟩
          case round =>
           clear hB0
           obtain ⟨k, hk, rfl, hB⟩ := hrel
           by_cases hlk : k < 8
           · have i0 : (k : Int) < 8 := by omega
             have i1 : (k : Int) + 8 < 16 := by omega
             have i2 : (k : Int) < 16 := by omega
             go_wp2
             refine Fam.wp_region_fam [13] (fun m u => BS w (hpart h (roundsL (wordsL s) 10 V0) (k + m)) (wordsL s) (roundsL (wordsL s) 10 V0) u) (by kernel_rfl) (by kernel_rfl) hB.drew ?_
             iterate 2 (refine Fam.pure_ (by rfl) (by rfl) rfl (fun K hK => ?_); go_big_quiet_op; refine hK _ ?_; clear hK K)
             refine Fam.read_ ?_ (by rfl) (by rfl) (fun m' _ u hu => ?_) ?_
             rotate_left
             · obtain rfl : m' = 0 := by have := Fam.inR_le ‹_› 0 (by decide) (by kernel_rfl); omega
               have q0 := hu.hcell k (by rw [hpart_length]; exact hlk)
               rw [hpart_get _ _ _ _ hlk, if_neg (by omega)] at q0; clear hu; go_simp; rfl
             simp only [Act.put, List.setIfInBounds_toArray, List.set_cons_zero, List.set_cons_succ]
             iterate 2 (refine Fam.pure_ (by rfl) (by rfl) rfl (fun K hK => ?_); go_big_quiet_op; refine hK _ ?_; clear hK K)
             refine Fam.read_ ?_ (by rfl) (by rfl) (fun m' _ u hu => ?_) ?_
             rotate_left
             · have q0 := hu.vcell k (by rw [hVL.out]; omega); clear hu; go_simp; rfl
             simp only [Act.put, List.setIfInBounds_toArray, List.set_cons_zero, List.set_cons_succ]
             iterate 3 (refine Fam.pure_ (by rfl) (by rfl) rfl (fun K hK => ?_); go_big_quiet_op; refine hK _ ?_; clear hK K)
             refine Fam.read_ ?_ (by rfl) (by rfl) (fun m' _ u hu => ?_) ?_
             rotate_left
             · have q0 := hu.vcell (k + 8) (by rw [hVL.out]; omega); clear hu; go_simp; rfl
             simp only [Act.put, List.setIfInBounds_toArray, List.set_cons_zero, List.set_cons_succ]
             iterate 3 (refine Fam.pure_ (by rfl) (by rfl) rfl (fun K hK => ?_); go_big_quiet_op; refine hK _ ?_; clear hK K)
             refine Fam.store_ (by rfl) (by rfl) (fun u hu => ?_) ?_
             · have q0 := hu.hcell k (by rw [hpart_length]; exact hlk); have f0 := hu.hfree k; have g0 := hu.setH k (xr (h.getD k 0) (xr ((roundsL (wordsL s) 10 V0).getD k 0) ((roundsL (wordsL s) 10 V0).getD (k + 8) 0)))
               rw [Nat.add_zero, hpart_next _ _ _ hlk] at g0
               refine ⟨_, ?_, g0⟩
               clear g0 hu
               unfold xr
               go_simp
             try simp only [Act.put, List.setIfInBounds_toArray, List.set_cons_zero, List.set_cons_succ]
             refine Fam.nil_ ?_
             intro u hu
             go_wp2
             go_roundw
             case rel => exact ⟨k + 1, by omega, by go_num, hu⟩
             case measure => first | (simp [intOf]; done) | (simp [intOf]; omega)
           · obtain rfl : k = 8 := by omega
             obtain ⟨R, hR⟩ : ∃ R, R = hpart h (roundsL (wordsL s) 10 V0) 8 := ⟨_, rfl⟩
             rw [← hR] at hB
             have hR2 := hR
             obtain ⟨a0, a1, a2, a3, a4, a5, a6, a7, e8⟩ := list8 R (by rw [hR]; exact hpart_length _ _ _)
             clear hR
             rw [e8] at hB hR2
             have HR := Lib.hid hR2
             clear e8 hR2
             have z0 := hB.1.cell (i := 0) rfl; have y0 := hB.2.1.cell (i := 0) rfl; have f0 := hB.2.1.frozen 0
             have z1 := hB.1.cell (i := 1) rfl; have y1 := hB.2.1.cell (i := 1) rfl; have f1 := hB.2.1.frozen 1
             have z2 := hB.1.cell (i := 2) rfl; have y2 := hB.2.1.cell (i := 2) rfl; have f2 := hB.2.1.frozen 2
             have z3 := hB.1.cell (i := 3) rfl; have y3 := hB.2.1.cell (i := 3) rfl; have f3 := hB.2.1.frozen 3
             have z4 := hB.1.cell (i := 4) rfl; have y4 := hB.2.1.cell (i := 4) rfl; have f4 := hB.2.1.frozen 4
             have z5 := hB.1.cell (i := 5) rfl; have y5 := hB.2.1.cell (i := 5) rfl; have f5 := hB.2.1.frozen 5
             have z6 := hB.1.cell (i := 6) rfl; have y6 := hB.2.1.cell (i := 6) rfl; have f6 := hB.2.1.frozen 6
             have z7 := hB.1.cell (i := 7) rfl; have y7 := hB.2.1.cell (i := 7) rfl; have f7 := hB.2.1.frozen 7
             have hb := hB.2.2.2.2
             clear hB
             go_wp2
             refine bodyPost_ret (v := .tuple #[.agg #[.int .u32 a0, .int .u32 a1, .int .u32 a2, .int .u32 a3, .int .u32 a4, .int .u32 a5, .int .u32 a6, .int .u32 a7], .int .i64 0]) (by simp [results, Tryz.results135, go_sem, y0, y1, y2, y3, y4, y5, y6, y7]) rfl ⟨by rw [← hpart_all h s t, hV0.out, ← HR.out]; rfl, ?_⟩
             repeat (refine Below.setCell ?_ (by simp) _)
             exact hb
end Go.Proofs.YtjlpjpjodhkpdaaGreatDoor
namespace Go.Proofs.YtjlpjpjodhkpdaaGreatDoor
open Go.RowKit
def startL (key : Int) : List Int := begins.set 0 (xr 1779033703 (xr 16842784 (key * 256)))
theorem startL_length (key : Int) : (startL key).length = 8 := by simp [startL, begins]
def bpart (k : Nat) : List Int := begins.take k ++ List.replicate (8 - k) 0
theorem bpart_next (k : Nat) (hk : k < 8) : (bpart k).set k (begins.getD k 0) = bpart (k + 1) := part_set begins k 8 rfl hk
theorem bpart_length (k : Nat) (hk : k ≤ 8) : (bpart k).length = 8 := by simp [bpart, begins]; omega
theorem start_ok (key : Int) (h0 : 0 ≤ key) (h1 : key ≤ 32) (w : World) (hT : Tabs w) :
 Calls Tryz.prog 114 #[.int .i64 key] w fun e w' =>
  e = .returned (.tuple #[.agg (u32s (startL key)).toArray, .int .i64 0]) ∧ Below w.heap.size w w' := by
 go_enter Tryz.func114, Tryz.ntmps114
 go_wp2
 have r1 := (RowIs.new w 95 (u32s (bpart 0))).alloc (.cells (u32s (bpart 0)).toArray 95)
 have r2 := RowIs.new (w.alloc (.cells (u32s (bpart 0)).toArray 95)) 95 (u32s (bpart 0))
 have hb := ((Below.refl w.heap.size w).alloc (Nat.le_refl _) (.cells (u32s (bpart 0)).toArray 95)).alloc (by simp) (.cells (u32s (bpart 0)).toArray 95)
 rw [World.size_alloc] at r2
 have e0 : (u32s (bpart 0)).toArray = #[.int .u32 0, .int .u32 0, .int .u32 0, .int .u32 0, .int .u32 0, .int .u32 0, .int .u32 0, .int .u32 0] := rfl
 rw [e0] at r1 r2 hb
 clear e0
 generalize World.alloc _ _ = W at *
 go_loopw [13] (fun c u => ∃ k : Nat, k ≤ 8 ∧ c = .int .i64 k ∧ RowIs u w.heap.size 95 (u32s (bpart 0)) ∧ RowIs u (w.heap.size + 1) 95 (u32s (bpart k)) ∧ Below w.heap.size w u) (fun c _ => 8 - (intOf c).toNat)
 case atStart => exact ⟨0, by omega, rfl, r1, r2, hb⟩
 case round =>
  clear r1 r2 hb
  obtain ⟨k, hk, rfl, q1, q2, q3⟩ := hrel
  by_cases hlt : k < 8
  · have c0 := (hT.below q3 hT.size).begin k hlt
    have c1 := q2.cell (u32s_get _ k (by rw [bpart_length k hk]; exact hlt))
    have f1 := q2.frozen k
    have g1 := q2.set k (.int .u32 (begins.getD k 0))
    rw [u32s_set, bpart_next k hlt] at g1
    have g0 := q1.other (a := ⟨w.heap.size + 1, k, none⟩) (by simp) (.int .u32 (begins.getD k 0))
    have g2 := q3.setCell (p := ⟨w.heap.size + 1, k, none⟩) (by simp) (.int .u32 (begins.getD k 0))
    clear q1 q2 q3
    generalize begins.getD k 0 = z at *
    go_wp2
    go_roundw
    case rel => exact ⟨k + 1, by omega, by go_num, g0, g1, g2⟩
    case measure => simp [intOf]; omega
  · obtain rfl : k = 8 := by omega
    have hbg : bpart 8 = [1779033703, 3144134277, 1013904242, 2773480762, 1359893119, 2600822924, 528734635, 1541459225] := rfl
    have hz : bpart 0 = [0, 0, 0, 0, 0, 0, 0, 0] := rfl
    rw [hbg] at q2
    rw [hz] at q1
    clear hbg hz
    have z0 := q2.cell (i := 0) rfl; have y0 := q1.cell (i := 0) rfl; have f0 := q1.frozen 0; have k0 := q2.frozen 0
    have z1 := q2.cell (i := 1) rfl; have y1 := q1.cell (i := 1) rfl; have f1 := q1.frozen 1
    have z2 := q2.cell (i := 2) rfl; have y2 := q1.cell (i := 2) rfl; have f2 := q1.frozen 2
    have z3 := q2.cell (i := 3) rfl; have y3 := q1.cell (i := 3) rfl; have f3 := q1.frozen 3
    have z4 := q2.cell (i := 4) rfl; have y4 := q1.cell (i := 4) rfl; have f4 := q1.frozen 4
    have z5 := q2.cell (i := 5) rfl; have y5 := q1.cell (i := 5) rfl; have f5 := q1.frozen 5
    have z6 := q2.cell (i := 6) rfl; have y6 := q1.cell (i := 6) rfl; have f6 := q1.frozen 6
    have z7 := q2.cell (i := 7) rfl; have y7 := q1.cell (i := 7) rfl; have f7 := q1.frozen 7
    clear q1 q2
    go_wp2
    refine bodyPost_ret (v := .tuple #[.agg (u32s (startL key)).toArray, .int .i64 0]) (by simp [results, Tryz.results114, go_sem, y0, y1, y2, y3, y4, y5, y6, y7]; rfl) rfl ⟨rfl, ?_⟩
    repeat (refine Below.setCell ?_ (by simp) _)
    exact q3
end Go.Proofs.YtjlpjpjodhkpdaaGreatDoor
