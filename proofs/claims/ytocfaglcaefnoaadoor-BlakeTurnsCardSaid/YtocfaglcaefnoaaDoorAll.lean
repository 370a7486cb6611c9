import Derived.Test.YtocfaglcaefnoaaDoorTold
set_option linter.unusedVariables false
set_option linter.unusedSimpArgs false
namespace Go.Proofs.YtocfaglcaefnoaaDoor
open Go.RowKit
/-- Noughts behind a text, up to 64 bytes. -/
def padB (s : ByteArray) : ByteArray := s ++ ⟨(Lib.repeatL [0] (64 - s.size)).toArray⟩
theorem repeat0_length (n : Nat) : (Lib.repeatL [(0 : UInt8)] n).length = n := by
  rw [Lib.repeatL_length]; simp
theorem padB_size (s : ByteArray) (h : s.size ≤ 64) : (padB s).size = 64 := by
  unfold padB
  rw [ByteArray.size_append]
  show s.size + (Lib.repeatL [0] (64 - s.size)).toArray.size = 64
  rw [List.size_toArray, repeat0_length]
  omega
/-- All bytes, from h on, of which t were taken ahead. -/
def feedL : Nat → List Int → ByteArray → Int → List Int
  | 0, h, _, _ => h
  | f + 1, h, s, t => if 64 < s.size then feedL f (blockL h (s.extract 0 64) (t + 64) false) (s.extract 64 s.size) (t + 64) else blockL h (padB s) (t + s.size) true
set_option maxHeartbeats 1000000 in
theorem all_any (h : List Int) (hh : h.length = 8) (s : ByteArray) (hs : s.size ≤ 140737488355328) (w : World) (hT : Tabs w) :
    Calls Tryd.prog 28 #[.agg (u32s h).toArray, .string s] w fun e w' => e = .returned (.string ⟨(toldL (feedL (s.size + 1) h s 0)).toArray⟩) ∧ Below w.heap.size w w' := by
  have HH := Lib.hid hh
  clear hh
  generalize hF : feedL (s.size + 1) h s 0 = F at *
  have HF := Lib.hid hF
  clear hF
  go_enter Tryd.func28, Tryd.ntmps28
  go_wp2
  have hR := RowIs.new w 24 (u32s h)
  have hB := (Below.refl w.heap.size w).alloc (Nat.le_refl _) (.cells (u32s h).toArray 24)
  generalize World.alloc _ _ = W at *
  go_loopw [1, 5] (fun x c u => ∃ (f : Nat) (g : List Int) (r : ByteArray) (t : Nat), x = .string r ∧ c = .int .u64 t ∧ r.size < f ∧ t + r.size ≤ s.size ∧ g.length = 8 ∧ Hid (feedL f g r t = F) ∧ RowIs u w.heap.size 24 (u32s g) ∧ Below w.heap.size w u) (fun x _ _ => match x with | .string r => r.size | _ => 0)
  case atStart => exact ⟨s.size + 1, h, s, 0, rfl, rfl, by omega, by omega, HH.out, HF, hR, hB⟩
  case round =>
    clear hR hB HF
    obtain ⟨f, g, r, t, rfl, rfl, hf, ht, hg, HF, hR, hB⟩ := hrel
    have HG := Lib.hid hg
    clear hg
    by_cases h64 : 64 < r.size
    · go_wp2
      have X64 := Lib.hid (show (r.extract 0 64).size = 64 by rw [ByteArray.size_extract]; omega)
      have i64 : (64 : Int) ≤ (r.size : Int) := by omega
      refine Fam.wp_region_fam [4, 8] (fun m u => RowIs u w.heap.size 24 (u32s (if m ≤ 1 then g else blockL g (r.extract 0 64) ((t : Int) + 64) false)) ∧ Below w.heap.size w u) (by kernel_rfl) (by kernel_rfl) ⟨hR, hB.drew⟩ ?_
      refine FamRow.load_ 24 (.tmp 2) _ 24 (u32s g) _ 8 rfl rfl rfl rfl Tryd.underlying24 rfl size8 (by rw [u32s_length]; exact HG.out) (fun m' hm u hu => ?_) ?_
      · have hm := Fam.inR_le hm 0 (by decide) (by kernel_rfl)
        obtain ⟨hu, _⟩ := hu
        rw [if_pos (by omega)] at hu
        exact hu
      simp only [Act.put, List.setIfInBounds_toArray, List.set_cons_zero, List.set_cons_succ]
      refine Fam.pure_ (by rfl) (by rfl) rfl (fun K hK => ?_)
      go_big_quiet_op
      refine hK _ ?_
      clear hK K
      refine Fam.any_ ?_ (by rfl) (by rfl) (fun w => ?_) ?_
      rotate_left
      · go_simp; rfl
      simp only [Act.put, List.setIfInBounds_toArray, List.set_cons_zero, List.set_cons_succ]
      refine Fam.pure_ (by rfl) (by rfl) rfl (fun K hK => ?_)
      go_big_quiet_op
      refine hK _ ?_
      clear hK K
      refine Fam.effCall_ (.tuple #[.agg (u32s (blockL g (r.extract 0 64) ((t : Int) + 64) false)).toArray, .int .i64 0]) 14 ?_ (by rfl) (by rfl) (fun w => ?_) (fun u hu => ?_) ?_
      rotate_left
      · go_simp; rfl
      · have h1 : RowIs u w.heap.size 24 (u32s g) := hu.1
        exact (block_ok g HG.out (r.extract 0 64) X64.out _ false u (hT.below hu.2 hT.size)).mono fun e u' ⟨he, hb⟩ => ⟨he, h1.below hb, hu.2.trans (hb.mono hu.2.size)⟩
      simp only [Act.put, List.setIfInBounds_toArray, List.set_cons_zero, List.set_cons_succ]
      refine Fam.pure_ (by rfl) (by rfl) rfl (fun K hK => ?_)
      go_big_quiet_op
      refine hK _ ?_
      clear hK K
      refine Fam.pure_ (by rfl) (by rfl) rfl (fun K hK => ?_)
      go_big_quiet_op
      refine hK _ ?_
      clear hK K
      refine Fam.pure_ (by rfl) (by rfl) rfl (fun K hK => ?_)
      go_big_quiet_op
      refine hK _ ?_
      clear hK K
      refine FamRow.store_ 24 (.tmp 2) (.tmp 17) _ 24 _ 8 rfl rfl rfl rfl rfl size8 (by rw [u32s_length, blockL_length]) (u32s_one _) (fun u hu => ?_) ?_
      · exact ⟨_, hu.1, by rw [u32s_length]; exact HG.out, hu.1.put _, below_setRow hu.2 (Nat.le_refl _) _⟩
      try simp only [Act.put, List.setIfInBounds_toArray, List.set_cons_zero, List.set_cons_succ]
      refine Fam.nil_ ?_
      rintro u ⟨hR, hB⟩
      have hR' : RowIs u w.heap.size 24 (u32s (blockL g (r.extract 0 64) ((t : Int) + 64) false)) := hR
      have hF' : Hid (feedL (f - 1) (blockL g (r.extract 0 64) (((t + 64 : Nat) : Int)) false) (r.extract 64 r.size) ((t + 64 : Nat) : Int) = F) := by
        obtain ⟨f, rfl⟩ : ∃ i, f = i + 1 := ⟨f - 1, by omega⟩
        have h2 := HF.out
        rw [feedL, if_pos h64] at h2
        exact h2
      clear hR HF
      go_wp2
      go_roundw
      case rel => exact ⟨f - 1, _, _, t + 64, rfl, by go_num, by rw [ByteArray.size_extract]; omega, by rw [ByteArray.size_extract]; omega, blockL_length _ _ _ _, hF', hR', hB⟩
      case measure => simp; omega
    · go_wp2
      have e64 : 64 - (r.size : Int) = ((64 - r.size : Nat) : Int) := by omega
      have hlen : ¬ 9223372036854775807 < r.size + (Lib.repeatL [(0 : UInt8)] (64 - r.size)).length := by rw [repeat0_length]; omega
      refine Fam.wp_region_fam [5, 8, 12] (fun m u => RowIs u w.heap.size 24 (u32s (if m ≤ 2 then g else blockL g (padB r) ((t : Int) + (r.size : Int)) true)) ∧ Below w.heap.size w u) (by kernel_rfl) (by kernel_rfl) ⟨hR, hB.drew⟩ ?_
      refine FamRow.load_ 24 (.tmp 2) _ 24 (u32s g) _ 8 rfl rfl rfl rfl Tryd.underlying24 rfl size8 (by rw [u32s_length]; exact HG.out) (fun m' hm u hu => ?_) ?_
      · have hm := Fam.inR_le hm 1 (by decide) (by kernel_rfl)
        obtain ⟨hu, _⟩ := hu
        rw [if_pos (by omega)] at hu
        exact hu
      simp only [Act.put, List.setIfInBounds_toArray, List.set_cons_zero, List.set_cons_succ]
      refine Fam.pure_ (by rfl) (by rfl) rfl (fun K hK => ?_)
      go_big_quiet_op
      refine hK _ ?_
      clear hK K
      refine Fam.pure_ (by rfl) (by rfl) rfl (fun K hK => ?_)
      go_big_quiet_op
      refine hK _ ?_
      clear hK K
      refine Fam.any_ ?_ (by rfl) (by rfl) (fun w => ?_) ?_
      rotate_left
      · go_simp; rfl
      simp only [Act.put, List.setIfInBounds_toArray, List.set_cons_zero, List.set_cons_succ]
      refine Fam.pure_ (by rfl) (by rfl) rfl (fun K hK => ?_)
      go_big_quiet_op
      refine hK _ ?_
      clear hK K
      refine Fam.effCall_ (.string ⟨(Lib.repeatL [0] (64 - r.size)).toArray⟩) 32 ?_ (by rfl) (by rfl) (fun w => ?_) (fun u hu => ?_) ?_
      rotate_left
      · go_simp; rfl
      · have h1 : RowIs u w.heap.size 24 (u32s g) := hu.1
        exact (Tryd.strings_Repeat ⟨#[0]⟩ (64 - r.size) u (by omega) (by show 1 * _ ≤ _; omega)).mono fun e u' ⟨he, hb⟩ => ⟨he, h1.below hb, hu.2.trans (hb.mono hu.2.size)⟩
      simp only [Act.put, List.setIfInBounds_toArray, List.set_cons_zero, List.set_cons_succ]
      refine Fam.pure_ (by rfl) (by rfl) rfl (fun K hK => ?_)
      go_big_quiet_op
      refine hK _ ?_
      clear hK K
      refine Fam.pure_ (by rfl) (by rfl) rfl (fun K hK => ?_)
      go_big_quiet_op
      refine hK _ ?_
      clear hK K
      refine Fam.effCall_ (.tuple #[.agg (u32s (blockL g (padB r) ((t : Int) + (r.size : Int)) true)).toArray, .int .i64 0]) 14 ?_ (by rfl) (by rfl) (fun w => ?_) (fun u hu => ?_) ?_
      rotate_left
      · go_simp; rfl
      · have h1 : RowIs u w.heap.size 24 (u32s g) := hu.1
        exact (block_ok g HG.out (padB r) (padB_size r (by omega)) _ true u (hT.below hu.2 hT.size)).mono fun e u' ⟨he, hb⟩ => ⟨he, hu.1.below hb, hu.2.trans (hb.mono hu.2.size)⟩
      simp only [Act.put, List.setIfInBounds_toArray, List.set_cons_zero, List.set_cons_succ]
      refine Fam.pure_ (by rfl) (by rfl) rfl (fun K hK => ?_)
      go_big_quiet_op
      refine hK _ ?_
      clear hK K
      refine Fam.pure_ (by rfl) (by rfl) rfl (fun K hK => ?_)
      go_big_quiet_op
      refine hK _ ?_
      clear hK K
      refine Fam.pure_ (by rfl) (by rfl) rfl (fun K hK => ?_)
      go_big_quiet_op
      refine hK _ ?_
      clear hK K
      refine FamRow.store_ 24 (.tmp 2) (.tmp 36) _ 24 _ 8 rfl rfl rfl rfl rfl size8 (by rw [u32s_length, blockL_length]) (u32s_one _) (fun u hu => ?_) ?_
      · exact ⟨_, hu.1, by rw [u32s_length]; exact HG.out, hu.1.put _, below_setRow hu.2 (Nat.le_refl _) _⟩
      try simp only [Act.put, List.setIfInBounds_toArray, List.set_cons_zero, List.set_cons_succ]
      refine Fam.nil_ ?_
      rintro u ⟨hR, hB⟩
      have hF' : Hid (blockL g (padB r) ((t : Int) + (r.size : Int)) true = F) := by
        obtain ⟨f, rfl⟩ : ∃ i, f = i + 1 := ⟨f - 1, by omega⟩
        have h2 := HF.out
        rw [feedL, if_neg h64] at h2
        exact h2
      have hR' : RowIs u w.heap.size 24 (u32s F) := by rw [← hF'.out]; exact hR
      have hL : F.length = 8 := by rw [← hF'.out]; exact blockL_length _ _ _ _
      have HL := Lib.hid hL
      clear hR HF hF' hL
      go_wp2_with (first | (refine wpList_load_row rfl 24 (.tmp 2) rfl w.heap.size rfl 24 (u32s F).toArray (0, 0) _ hR' Tryd.underlying24 rfl (by rw [size8, List.size_toArray, u32s_length, HL.out]) ?_) | (go_at_call 36; refine (told_any F HL.out _).mono ?_))
      rintro e u' ⟨rfl, hb⟩
      have hB3 := hB.trans (hb.mono hB.size)
      clear hB hb
      go_wp2
      go_ret
      exact ⟨rfl, hB3⟩
end Go.Proofs.YtocfaglcaefnoaaDoor
