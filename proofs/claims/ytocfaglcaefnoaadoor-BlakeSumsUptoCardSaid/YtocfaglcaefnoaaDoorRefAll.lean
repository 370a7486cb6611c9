/- cartoucheref02.all. -/
import Derived.Test.YtocfaglcaefnoaaDoorRefBlock
import Derived.Test.YtocfaglcaefnoaaDoorRefPad
set_option linter.unusedVariables false
set_option linter.unusedSimpArgs false
namespace Go.Proofs.YtocfaglcaefnoaaDoor
open Go.RowKit

theorem extract_extract (s : ByteArray) (a b c d : Nat) (h : a + d ≤ b ∨ b = s.size) : (s.extract a b).extract c d = s.extract (a + c) (min (a + d) b) := by
  apply ByteArray.ext
  simp only [ByteArray.data_extract]
  exact Array.extract_extract

theorem xr_range (x y : Int) : 0 ≤ xr x y ∧ xr x y < 4294967296 := by
  have e : xr x y = ((BitVec.ofInt 32 x ^^^ BitVec.ofInt 32 y).toNat : Int) % 4294967296 := by
    show IntKind.u32.wrap _ = _
    rw [IntKind.wrap_u32]
    rfl
  rw [e]
  omega
theorem blockL_range (h : List Int) (s : ByteArray) (t : Int) (last : Bool) : ∀ i, i < 8 → 0 ≤ (blockL h s t last).getD i 0 ∧ (blockL h s t last).getD i 0 < 4294967296 := by
  intro i hi
  unfold blockL
  rw [List.getD_eq_getElem?_getD, List.getElem?_map, List.getElem?_range hi]
  exact xr_range _ _
/-- A word, n bytes taken. -/
def yv (z : Int) : Nat → Int
  | 0 => z
  | n + 1 => yv z n / 256
theorem yv_next (z : Int) (n : Nat) : yv z n / 256 = yv z (n + 1) := rfl
theorem yv_range (z : Int) (n : Nat) (h0 : 0 ≤ z) (h1 : z < 4294967296) : 0 ≤ yv z n ∧ yv z n < 4294967296 := by
  induction n with
  | zero => exact ⟨h0, h1⟩
  | succ n ih =>
    show 0 ≤ yv z n / 256 ∧ yv z n / 256 < 4294967296
    omega
theorem toldP_next (F : List Int) (k n : Nat) (hn : n < 4) (z : Int) (hz : z = F.getD k 0) : toldP F k n ++ [u8of (yv z n)] = toldP F k (n + 1) := by
  unfold toldP
  rw [← hz, List.append_assoc, List.take_succ_eq_append_getElem (by simp [wb]; omega)]
  have e1 : z / 256 / 256 = z / 65536 := by omega
  have e2 : z / 256 / 256 / 256 = z / 16777216 := by omega
  have e : [u8of (yv z n)] = [(wb z)[n]'(by simp [wb]; omega)] := by
    rcases (show n = 0 ∨ n = 1 ∨ n = 2 ∨ n = 3 by omega) with rfl | rfl | rfl | rfl
    · rfl
    · rfl
    · show [u8of (z / 256 / 256)] = [u8of (z / 65536)]
      rw [e1]
    · show [u8of (z / 256 / 256 / 256)] = [u8of (z / 16777216)]
      rw [e2]
  rw [e]

set_option maxHeartbeats 4000000 in
theorem rall_any (h : List Int) (hh : h.length = 8) (s : ByteArray) (hs : s.size ≤ 140737488355328) (w : World) :
    Calls Tryd.prog 29 #[.agg (u32s h).toArray, .string s] w fun e w' => e = .returned (.string ⟨(toldL (feedL (s.size + 1) h s 0)).toArray⟩) ∧ Below w.heap.size w w' := by
  have HH := Lib.hid hh
  clear hh
  generalize hF : feedL (s.size + 1) h s 0 = F at *
  have HF := Lib.hid (show feedL (s.size + 1) h (s.extract 0 s.size) ((0 : Nat) : Int) = F by rw [ByteArray.extract_zero_size]; exact hF)
  clear hF
  go_enter Tryd.func29, Tryd.ntmps29
  go_wp2
  have hR := RowIs.new w 24 (u32s h)
  have hB := (Below.refl w.heap.size w).alloc (Nat.le_refl _) (.cells (u32s h).toArray 24)
  generalize World.alloc _ _ = W at *
  go_loopw [5] (fun c u => ∃ (f : Nat) (g : List Int) (t : Nat), c = .int .i64 t ∧ s.size - t < f ∧ t ≤ s.size ∧ g.length = 8 ∧ Hid (feedL f g (s.extract t s.size) t = F) ∧ RowIs u w.heap.size 24 (u32s g) ∧ Below w.heap.size w u) (fun c _ => s.size - (intOf c).toNat)
  case atStart => exact ⟨s.size + 1, h, 0, rfl, by omega, by omega, HH.out, HF, hR, hB⟩
  case round =>
    clear hR hB HF
    obtain ⟨f, g, t, rfl, hf, ht, hg, HF, hR, hB⟩ := hrel
    have HG := Lib.hid hg
    clear hg
    by_cases h64 : t + 64 < s.size
    · have i64 : (t : Int) + 64 < (s.size : Int) := by omega
      have i64b : (t : Int) + 64 ≤ (s.size : Int) := by omega
      have i0 : (t : Int) ≤ (t : Int) + 64 := by omega
      have X64 := Lib.hid (show (s.extract t (t + 64)).size = 64 by rw [ByteArray.size_extract]; omega)
      go_wp2
      refine Fam.wp_region_fam [9, 13] (fun m u => RowIs u w.heap.size 24 (u32s (if m ≤ 1 then g else blockL g (s.extract t (t + 64)) ((t : Int) + 64) false)) ∧ Below w.heap.size w u) (by kernel_rfl) (by kernel_rfl) ⟨hR, hB.drew⟩ ?_
      refine FamRow.load_ 24 (.tmp 2) _ 24 (u32s g) _ 8 rfl rfl rfl rfl Tryd.underlying24 rfl size8 (by rw [u32s_length]; exact HG.out) (fun m' hm u hu => ?_) ?_
      · have hm := Fam.inR_le hm 0 (by decide) (by kernel_rfl)
        obtain ⟨hu, _⟩ := hu
        rw [if_pos (by omega)] at hu
        exact hu
      simp only [Act.put, List.setIfInBounds_toArray, List.set_cons_zero, List.set_cons_succ]
      refine Fam.pure_ (by rfl) (by rfl) rfl (fun K hK => ?_)
      go_big_quiet_op
      refine hK _ ?_
      clear hK K
      refine Fam.pure_ (by rfl) (by rfl) rfl (fun K hK => ?_)
      go_big_quiet_op
      refine hK _ ?_
      clear hK K
      refine Fam.pure_ (by rfl) (by rfl) rfl (fun K hK => ?_)
      go_big_quiet_op
      refine hK _ ?_
      clear hK K
      refine Fam.pure_ (by rfl) (by rfl) rfl (fun K hK => ?_)
      go_big_quiet_op
      refine hK _ ?_
      clear hK K
      refine Fam.any_ ?_ (by rfl) (by rfl) (fun w => ?_) ?_
      rotate_left
      · go_simp; rfl
      simp only [Act.put, List.setIfInBounds_toArray, List.set_cons_zero, List.set_cons_succ]
      refine Fam.pure_ (by rfl) (by rfl) rfl (fun K hK => ?_)
      go_big_quiet_op
      refine hK _ ?_
      clear hK K
      refine Fam.pure_ (by rfl) (by rfl) rfl (fun K hK => ?_)
      go_big_quiet_op
      refine hK _ ?_
      clear hK K
      refine Fam.pure_ (by rfl) (by rfl) rfl (fun K hK => ?_)
      go_big_quiet_op
      refine hK _ ?_
      clear hK K
      refine Fam.effCall_ (.tuple #[.agg (u32s (blockL g (s.extract t (t + 64)) ((t : Int) + 64) false)).toArray, .int .i64 0]) 15 ?_ (by rfl) (by rfl) (fun w => ?_) (fun u hu => ?_) ?_
      rotate_left
      · go_simp; rfl
      · have h1 : RowIs u w.heap.size 24 (u32s g) := hu.1
        exact (rblock_ok g HG.out (s.extract t (t + 64)) X64.out _ (by omega) (by omega) false u).mono fun e u' ⟨he, hb⟩ => ⟨he, h1.below hb, hu.2.trans (hb.mono hu.2.size)⟩
      simp only [Act.put, List.setIfInBounds_toArray, List.set_cons_zero, List.set_cons_succ]
      refine Fam.pure_ (by rfl) (by rfl) rfl (fun K hK => ?_)
      go_big_quiet_op
      refine hK _ ?_
      clear hK K
      refine Fam.pure_ (by rfl) (by rfl) rfl (fun K hK => ?_)
      go_big_quiet_op
      refine hK _ ?_
      clear hK K
      refine Fam.pure_ (by rfl) (by rfl) rfl (fun K hK => ?_)
      go_big_quiet_op
      refine hK _ ?_
      clear hK K
      refine FamRow.store_ 24 (.tmp 2) (.tmp 26) _ 24 _ 8 rfl rfl rfl rfl rfl size8 (by rw [u32s_length, blockL_length]) (u32s_one _) (fun u hu => ?_) ?_
      · exact ⟨_, hu.1, by rw [u32s_length]; exact HG.out, hu.1.put _, below_setRow hu.2 (Nat.le_refl _) _⟩
      try simp only [Act.put, List.setIfInBounds_toArray, List.set_cons_zero, List.set_cons_succ]
      refine Fam.nil_ ?_
      rintro u ⟨hR, hB⟩
      have hR' : RowIs u w.heap.size 24 (u32s (blockL g (s.extract t (t + 64)) ((t : Int) + 64) false)) := hR
      have hF' : Hid (feedL (f - 1) (blockL g (s.extract t (t + 64)) (((t + 64 : Nat) : Int)) false) (s.extract (t + 64) s.size) ((t + 64 : Nat) : Int) = F) := by
        obtain ⟨f, rfl⟩ : ∃ i, f = i + 1 := ⟨f - 1, by omega⟩
        have h2 := HF.out
        rw [feedL, if_pos (by rw [ByteArray.size_extract]; omega)] at h2
        have h3 : (s.extract t s.size).extract 0 64 = s.extract t (t + 64) := by
          rw [extract_extract s t s.size 0 64 (.inr rfl), Nat.add_zero, Nat.min_eq_left (by omega)]
        have h4 : (s.extract t s.size).extract 64 (s.extract t s.size).size = s.extract (t + 64) s.size := by
          rw [extract_extract s t s.size 64 _ (.inr rfl), ByteArray.size_extract, Nat.min_eq_right (by omega)]
        rw [h3, h4] at h2
        exact Lib.hid h2
      clear hR HF
      go_wp2
      go_roundw
      case rel => exact ⟨f - 1, _, t + 64, by go_num, by omega, by omega, blockL_length _ _ _ _, hF', hR', hB⟩
      case measure => first | (simp [intOf]; done) | (simp [intOf]; omega)
    · have X65 := Lib.hid (show (s.extract t s.size).size = s.size - t by rw [ByteArray.size_extract]; omega)
      have i65 : (t : Int) ≤ (s.size : Int) := by omega
      go_wp2
      refine Fam.wp_region_fam [4, 8, 12] (fun m u => RowIs u w.heap.size 24 (u32s (if m ≤ 2 then g else blockL g (padB (s.extract t s.size)) (s.size : Int) true)) ∧ Below w.heap.size w u) (by kernel_rfl) (by kernel_rfl) ⟨hR, hB.drew⟩ ?_
      refine FamRow.load_ 24 (.tmp 2) _ 24 (u32s g) _ 8 rfl rfl rfl rfl Tryd.underlying24 rfl size8 (by rw [u32s_length]; exact HG.out) (fun m' hm u hu => ?_) ?_
      · have hm := Fam.inR_le hm 1 (by decide) (by kernel_rfl)
        obtain ⟨hu, _⟩ := hu
        rw [if_pos (by omega)] at hu
        exact hu
      simp only [Act.put, List.setIfInBounds_toArray, List.set_cons_zero, List.set_cons_succ]
      refine Fam.pure_ (by rfl) (by rfl) rfl (fun K hK => ?_)
      go_big_quiet_op
      refine hK _ ?_
      clear hK K
      refine Fam.pure_ (by rfl) (by rfl) rfl (fun K hK => ?_)
      go_big_quiet_op
      refine hK _ ?_
      clear hK K
      refine Fam.any_ ?_ (by rfl) (by rfl) (fun w => ?_) ?_
      rotate_left
      · go_simp; rfl
      simp only [Act.put, List.setIfInBounds_toArray, List.set_cons_zero, List.set_cons_succ]
      refine Fam.effCall_ (.string (padB (s.extract t s.size))) 33 ?_ (by rfl) (by rfl) (fun w => ?_) (fun u hu => ?_) ?_
      rotate_left
      · go_simp; rfl
      · have h1 : RowIs u w.heap.size 24 (u32s g) := hu.1
        exact (pad_any (s.extract t s.size) (by rw [X65.out]; omega) u).mono fun e u' ⟨he, hb⟩ => ⟨he, h1.below hb, hu.2.trans (hb.mono hu.2.size)⟩
      simp only [Act.put, List.setIfInBounds_toArray, List.set_cons_zero, List.set_cons_succ]
      refine Fam.pure_ (by rfl) (by rfl) rfl (fun K hK => ?_)
      go_big_quiet_op
      refine hK _ ?_
      clear hK K
      refine Fam.any_ ?_ (by rfl) (by rfl) (fun w => ?_) ?_
      rotate_left
      · go_simp; rfl
      simp only [Act.put, List.setIfInBounds_toArray, List.set_cons_zero, List.set_cons_succ]
      refine Fam.pure_ (by rfl) (by rfl) rfl (fun K hK => ?_)
      go_big_quiet_op
      refine hK _ ?_
      clear hK K
      refine Fam.effCall_ (.tuple #[.agg (u32s (blockL g (padB (s.extract t s.size)) (s.size : Int) true)).toArray, .int .i64 0]) 15 ?_ (by rfl) (by rfl) (fun w => ?_) (fun u hu => ?_) ?_
      rotate_left
      · go_simp; rfl
      · have h1 : RowIs u w.heap.size 24 (u32s g) := hu.1
        exact (rblock_ok g HG.out (padB (s.extract t s.size)) (padB_size _ (by rw [X65.out]; omega)) _ (by omega) (by omega) true u).mono fun e u' ⟨he, hb⟩ => ⟨he, hu.1.below hb, hu.2.trans (hb.mono hu.2.size)⟩
      simp only [Act.put, List.setIfInBounds_toArray, List.set_cons_zero, List.set_cons_succ]
      refine Fam.pure_ (by rfl) (by rfl) rfl (fun K hK => ?_)
      go_big_quiet_op
      refine hK _ ?_
      clear hK K
      refine Fam.pure_ (by rfl) (by rfl) rfl (fun K hK => ?_)
      go_big_quiet_op
      refine hK _ ?_
      clear hK K
      refine Fam.pure_ (by rfl) (by rfl) rfl (fun K hK => ?_)
      go_big_quiet_op
      refine hK _ ?_
      clear hK K
      refine FamRow.store_ 24 (.tmp 2) (.tmp 40) _ 24 _ 8 rfl rfl rfl rfl rfl size8 (by rw [u32s_length, blockL_length]) (u32s_one _) (fun u hu => ?_) ?_
      · exact ⟨_, hu.1, by rw [u32s_length]; exact HG.out, hu.1.put _, below_setRow hu.2 (Nat.le_refl _) _⟩
      try simp only [Act.put, List.setIfInBounds_toArray, List.set_cons_zero, List.set_cons_succ]
      refine Fam.nil_ ?_
      rintro u ⟨hR2, hB2⟩
      have hF' : Hid (blockL g (padB (s.extract t s.size)) (s.size : Int) true = F) := by
        obtain ⟨f, rfl⟩ : ∃ i, f = i + 1 := ⟨f - 1, by omega⟩
        have h2 := HF.out
        rw [feedL, if_neg (by rw [ByteArray.size_extract]; omega)] at h2
        have h3 : (t : Int) + ((s.extract t s.size).size : Int) = (s.size : Int) := by rw [X65.out]; omega
        rw [h3] at h2
        exact Lib.hid h2
      have hR' : RowIs u w.heap.size 24 (u32s F) := by rw [← hF'.out]; exact hR2
      have HL := Lib.hid (show F.length = 8 by rw [← hF'.out]; exact blockL_length _ _ _ _)
      have HW := Lib.hid (show ∀ i, i < 8 → 0 ≤ F.getD i 0 ∧ F.getD i 0 < 4294967296 by rw [← hF'.out]; exact blockL_range _ _ _ _)
      clear hR2 HF hF' X65 i65
      have hO : u.ownsRow (w.heap.size + 1) 5 1 (.slice none 0 0) (toldP F 0 0).length (Lib.byteCells (toldP F 0 0)) := World.ownsRow_nil _ _ _ _
      have hS : w.heap.size + 1 ≤ u.heap.size := hR'.lt
      obtain ⟨i0, hi, hz0, hz1, hz2⟩ := info_parts infoByte
      go_wp2_with fail
      go_loopw [6, 7] (fun x c u => ∃ k : Nat, k ≤ 8 ∧ c = .int .i64 k ∧ u.ownsRow (w.heap.size + 1) 5 1 x (toldP F k 0).length (Lib.byteCells (toldP F k 0)) ∧ RowIs u w.heap.size 24 (u32s F) ∧ Below w.heap.size w u ∧ w.heap.size + 1 ≤ u.heap.size) (fun _ c _ => 8 - (intOf c).toNat)
      case atStart => exact ⟨0, by omega, rfl, hO, hR', hB2, hS⟩
      case round =>
        clear hO hR' hB2 hS
        obtain ⟨k, hk, rfl, hO, hR, hB, hS⟩ := hrel
        by_cases hlt : k < 8
        · have hw := HW.out k hlt
          have c0 := hR.cell (u32s_get _ k (by rw [HL.out]; omega))
          have i1 : (k : Int) < 8 := by omega
          have dk : decide ((k : Int) < 8) = true := by simp; omega
          obtain ⟨z, hz⟩ : ∃ z, z = F.getD k 0 := ⟨_, rfl⟩
          rw [← hz] at c0 hw
          have HZ := Lib.hid hz
          have HZW := Lib.hid hw
          clear hz hw
          go_wp2_with fail
          obtain ⟨wo2, rfl⟩ : ∃ wo : World, wo = wr := ⟨_, rfl⟩
          go_loopw [6, 8, 9] (fun x y c u => ∃ n : Nat, n ≤ 4 ∧ c = .int .i64 n ∧ y = .int .u32 (yv z n) ∧ u.ownsRow (w.heap.size + 1) 5 1 x (toldP F k n).length (Lib.byteCells (toldP F k n)) ∧ RowIs u w.heap.size 24 (u32s F) ∧ Below w.heap.size w u ∧ w.heap.size + 1 ≤ u.heap.size) (fun _ _ c _ => 4 - (intOf c).toNat)
          case atStart => exact ⟨0, by omega, rfl, rfl, hO, hR, hB, hS⟩
          case round =>
            clear hO hR hB hS c0
            obtain ⟨n, hn, rfl, rfl, hO, hR, hB, hS⟩ := hrel
            have hl := toldP_length F k n (by omega)
            rw [HL.out] at hl
            by_cases hn4 : n < 4
            · have hy := yv_range z n HZW.out.1 HZW.out.2
              have dn : decide ((n : Int) < 4) = true := by simp; omega
              have hnx := Lib.hid (show Lib.byteCells (toldP F k n) ++ [Value.int .u8 (yv z n % 256)] = Lib.byteCells (toldP F k (n + 1)) by rw [← toldP_next F k n hn4 z HZ.out, byteCells_snoc, u8of_toNat])
              have hll := Lib.hid (show (toldP F k n).length + 1 = (toldP F k (n + 1)).length by rw [← toldP_next F k n hn4 z HZ.out, List.length_append]; rfl)
              have hyn := Lib.hid (yv_next z n)
              generalize yv z n = yy at *
              have hq1 : yy.tmod 256 = yy % 256 := Int.tmod_eq_emod_of_nonneg hy.1
              have hq2 : yy.tdiv 256 = yy / 256 := Int.tdiv_eq_ediv_of_nonneg hy.1
              have hq3 : 0 ≤ yy % 256 := by omega
              have hq4 : yy % 256 < 256 := by omega
              go_wp2_with (at_builtin; refine wpList_append_own _ rfl _ _ 63 rfl (w.heap.size + 1) 5 i0 (.int .u8 0) 1 1 Tryd.underlying63 hi hz0 hz1 hz2 rfl (by decide) _ _ _ rfl (hO.alloc _) ⟨wr.heap.size, 0, none⟩ 1 1 [.int .u8 (yy % 256)] rfl rfl ?c1 ?c2 ?c3 ?c4 ?c5 ?_)
              case c1 =>
                intro j u hj
                match j, hj with
                | 0, hj => simp at hj; subst hj; simp [Addr.add]
              case c2 => intro u hu; simp at hu; subst hu; rfl
              case c3 => unfold maxLen; omega
              case c4 => omega
              case c5 => simp; omega
              intro v' w2 hO2 hgr _
              rw [hnx.out, hll.out] at hO2
              have hR2 := (hR.alloc (.cells #[.int .u8 (yy % 256)] 5)).grown hgr (fun e => by have := (hO.lt _ e.symm).1; omega)
              have hB2 := (hB.alloc hB.size (.cells #[.int .u8 (yy % 256)] 5)).grown hgr (by simp; omega) (fun g hg => by have := (hO.lt _ hg).1; omega)
              have hS2 : w.heap.size + 1 ≤ w2.heap.size := Nat.le_trans (by simp; omega) hgr.size
              clear hO hR hB hS hgr
              go_wp2
              go_roundw
              case rel => exact ⟨n + 1, by omega, by go_num, by rw [hyn.out], hO2, hR2, hB2, hS2⟩
              case measure => first | (simp [intOf]; done) | (simp [intOf]; omega)
            · obtain rfl : n = 4 := by omega
              rw [toldP_word F HL.out k hlt] at hO
              go_wp2
              go_roundw
              case rel => exact ⟨k + 1, by omega, by go_num, hO, hR, hB, hS⟩
              case measure => first | (simp [intOf]; done) | (simp [intOf]; omega)
        · obtain rfl : k = 8 := by omega
          rw [toldP_all F HL.out] at hO
          have hl := toldL_length F
          rw [HL.out] at hl
          have hP : PadAt 5 wr (w.heap.size + 1) _ (toldL F) := .inl hO
          obtain ⟨p, cap, rfl⟩ := hP.slice
          obtain ⟨g', rfl⟩ := hP.addr (by rw [hl]; decide) rfl
          have hback := run_convert_bytes_back (P := Tryd.prog) wr 63 9 5 ⟨g', 0, none⟩ cap (toldL F) Tryd.underlying63 Tryd.underlying5 Tryd.underlying9 (hP.cellAt rfl)
          rw [hl] at hback ⊢
          clear hP hO
          go_wp2
          go_ret
          exact ⟨rfl, hB⟩
end Go.Proofs.YtocfaglcaefnoaaDoor
