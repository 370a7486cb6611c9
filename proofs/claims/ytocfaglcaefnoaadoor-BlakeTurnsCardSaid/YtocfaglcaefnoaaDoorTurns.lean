/- The law BlakeTurns: the walk. -/
import Derived.Test.YtocfaglcaefnoaaDoorAheadA
import Derived.Test.YtocfaglcaefnoaaDoorLateRow
import Derived.StillTailTactics
set_option linter.unusedVariables false
set_option linter.unusedSimpArgs false
namespace Go.Proofs.YtocfaglcaefnoaaDoor
open Go.RowKit

set_option maxRecDepth 100000 in
set_option maxHeartbeats 4000000 in
theorem turns_ok (s : ByteArray) (hs : s.size ≤ 140737488351232) (w : World) (hT : Tabs w) :
    Calls Tryd.prog 6 #[.string s] w fun e w' => e = .returned (.bool true) ∧ Below w.heap.size w w' := by
  have HS := Lib.hid (fun u (hu : Tabs u) => shown_any u hu)
  have hA := fun u (hu : Tabs u) => sum_any s (by omega) u hu
  have hst := fun u (hu : Tabs u) => start_ok 0 (by omega) (by omega) u hu
  rw [startA_eq] at hst
  obtain ⟨F, hF⟩ : ∃ F, F = feedL (s.size + 1) (startL 0) s 0 := ⟨_, rfl⟩
  have hd : sumB s = ⟨(toldL F).toArray⟩ := by rw [hF]; rfl
  have HL := Lib.hid (show F.length = 8 by rw [hF]; exact feedL_length _ _ _ _ (startL_length _))
  have HW := Lib.hid (show ∀ i, i < 8 → 0 ≤ F.getD i 0 ∧ F.getD i 0 < 4294967296 by rw [hF]; exact feedL_bounds _ _ _ _ (by omega))
  have hF0 : Hid (feedL (s.size + 1) (startL 0) s ((0 : Nat) : Int) = F) := Lib.hid hF.symm
  have hst8 : startL 0 = [key0 0, 3144134277, 1013904242, 2773480762, 1359893119, 2600822924, 528734635, 1541459225] := rfl
  rw [hst8] at hF0
  rw [hd] at hA
  obtain ⟨d, hdd⟩ : ∃ d : ByteArray, d = ⟨(toldL F).toArray⟩ := ⟨_, rfl⟩
  rw [← hdd] at hA
  have HDS := Lib.hid (show d.size = 32 by rw [hdd]; show (toldL F).toArray.size = 32; rw [List.size_toArray, toldL_length, HL.out])
  have HDA := Lib.hid (show ∀ n, d.data.getD n 0 = (toldL F).getD n 0 by intro n; rw [hdd]; simp [Array.getD_eq_getD_getElem?, List.getD_eq_getElem?_getD])
  generalize key0 0 = k0 at *
  unfold startA at hst
  have HA := Lib.hid hA; have HB := Lib.hid hst
  clear hA hst hF hd hst8 hdd
  go_enter Tryd.func6, Tryd.ntmps6
  go_wp2_with (go_at_call 11; refine Pause'.out ?_)
  constructor
  refine (HS.out _ hT).mono ?_
  rintro e u ⟨rfl, hB⟩
  go_wp2_with (go_at_call 12; refine Pause'.out ?_)
  constructor
  refine (HB.out _ (hT.below hB hT.size)).mono ?_
  rintro e U ⟨rfl, hb⟩
  replace hB := hB.trans (hb.mono hB.size)
  clear hb
  have hb0 := hB
  have hR : RowIs (U.alloc (.cells (u32s [k0, 3144134277, 1013904242, 2773480762, 1359893119, 2600822924, 528734635, 1541459225]).toArray 24)) U.heap.size 24 (u32s [k0, 3144134277, 1013904242, 2773480762, 1359893119, 2600822924, 528734635, 1541459225]) := RowIs.new _ _ _
  replace hB := hB.alloc hB.size (.cells (u32s [k0, 3144134277, 1013904242, 2773480762, 1359893119, 2600822924, 528734635, 1541459225]).toArray 24)
  have e0 : (u32s [k0, 3144134277, 1013904242, 2773480762, 1359893119, 2600822924, 528734635, 1541459225]).toArray = #[.int .u32 k0, .int .u32 3144134277, .int .u32 1013904242, .int .u32 2773480762, .int .u32 1359893119, .int .u32 2600822924, .int .u32 528734635, .int .u32 1541459225] := rfl
  rw [e0] at hR hB
  clear e0 HS HB
  go_wp2_with fail
  generalize World.alloc _ _ = W at *
  go_loopw [6, 7] (fun x c u => ∃ (f : Nat) (g : List Int) (r : ByteArray) (t : Nat), x = .string r ∧ c = .int .u64 t ∧ r.size < f ∧ t + r.size ≤ 140737488351296 ∧ g.length = 8 ∧ Hid (feedL f g r t = F) ∧ RowIs u U.heap.size 24 (u32s g) ∧ Below w.heap.size w u) (fun x _ _ => match x with | .string r => r.size | _ => 0)
  case atStart => exact ⟨s.size + 1, [k0, 3144134277, 1013904242, 2773480762, 1359893119, 2600822924, 528734635, 1541459225], s, 0, rfl, rfl, by omega, by omega, rfl, hF0, hR, hB⟩
  case round =>
  clear hR hB hF0
  obtain ⟨f, g, r, t, rfl, rfl, hf, ht, hg, HF, hR, hB⟩ := hrel
  have HG := Lib.hid hg
  clear hg
  by_cases h64 : 64 < r.size
  · have X64 := Lib.hid (show (r.extract 0 64).size = 64 by rw [ByteArray.size_extract]; omega)
    have i64 : (64 : Int) ≤ (r.size : Int) := by omega
    have dk : decide ((64 : Int) < (r.size : Int)) = true := by simp; omega
    go_wp2_with fail
    refine Late.wp_region_late [4, 9] 8 (fun m ov u => RowIs u U.heap.size 24 (u32s g) ∧ Below w.heap.size w u ∧ ∀ v, ov = some v → ∃ b, v = .pointer (some ⟨b, 0, none⟩) ∧ w.heap.size ≤ b ∧ U.heap.size ≠ b ∧ RowIs u b 24 (u32s (if m ≤ 1 then [0, 0, 0, 0, 0, 0, 0, 0] else (blockL g (r.extract 0 64) ((t : Int) + 64) false)))) (by kernel_rfl) (by kernel_rfl) ⟨hR, hB.drew, fun _ h => by cases h⟩ ?_
    refine LateRow.load_ 24 (.tmp 4) _ 24 (u32s g) _ 8 (by decide) rfl rfl rfl rfl Tryd.underlying24 rfl size8 (by rw [u32s_length]; exact HG.out) (fun m' ov ha hm ho u hu => ?_) ?_
    · exact hu.1
    simp only [Act.put, List.setIfInBounds_toArray, List.set_cons_zero, List.set_cons_succ]
    refine Late.pure_ (by decide) (by rfl) (by rfl) rfl (fun K hK => ?_)
    go_big_quiet_op
    refine hK _ ?_
    clear hK K
    refine Late.any_ ?_ (by decide) (by rfl) (by rfl) (fun w => ?_) ?_
    rotate_left
    · go_simp; rfl
    simp only [Act.put, List.setIfInBounds_toArray, List.set_cons_zero, List.set_cons_succ]
    refine Late.pure_ (by decide) (by rfl) (by rfl) rfl (fun K hK => ?_)
    go_big_quiet_op
    refine hK _ ?_
    clear hK K
    refine Late.effCall_ (.tuple #[.agg (u32s (blockL g (r.extract 0 64) ((t : Int) + 64) false)).toArray, .int .i64 0]) 14 ?_ (by decide) (by rfl) (by rfl) (fun w => ?_) (fun ov ha ho u hu => ?_) ?_
    rotate_left
    · go_simp; rfl
    · exact (block_ok g HG.out (r.extract 0 64) X64.out _ false u (hT.below hu.2.1 hT.size)).mono fun e u' ⟨he, hb⟩ => ⟨he, hu.1.below hb, hu.2.1.trans (hb.mono hu.2.1.size), fun v hv => by
        obtain ⟨b, h1, h2, h3, h4⟩ := hu.2.2 v hv
        rw [if_pos (by omega)] at h4 ⊢
        exact ⟨b, h1, h2, h3, h4.below hb⟩⟩
    simp only [Act.put, List.setIfInBounds_toArray, List.set_cons_zero, List.set_cons_succ]
    refine Late.pure_ (by decide) (by rfl) (by rfl) rfl (fun K hK => ?_)
    go_big_quiet_op
    refine hK _ ?_
    clear hK K
    refine Late.pure_ (by decide) (by rfl) (by rfl) rfl (fun K hK => ?_)
    go_big_quiet_op
    refine hK _ ?_
    clear hK K
    refine Late.pure_ (by decide) (by rfl) (by rfl) rfl (fun K hK => ?_)
    go_big_quiet_op
    refine hK _ ?_
    clear hK K
    refine Late.late_ (by rfl) (fun m hm u hu => ?_) (fun lv => ?_)
    · have hm := Fam.inR_le hm 1 (by decide) (by kernel_rfl)
      refine ⟨.pointer (some ⟨u.heap.size, 0, none⟩), u.alloc (.cells (u32s [0, 0, 0, 0, 0, 0, 0, 0]).toArray 24), by go_simp; rfl, hu.1.alloc _, hu.2.1.alloc hu.2.1.size _, fun v hv => ?_⟩
      obtain rfl := Option.some.inj hv
      refine ⟨u.heap.size, rfl, hu.2.1.size, by have := hu.1.lt; omega, ?_⟩
      rw [if_pos hm]
      exact RowIs.new _ _ _
    simp only [Act.put, List.setIfInBounds_toArray, List.set_cons_zero, List.set_cons_succ]
    refine Late.store_ (by decide) (by rfl) (by rfl) (fun ov ha ho u hu => ?_) ?_
    · obtain ⟨b, hb, h2, h3, h4⟩ := hu.2.2 lv (ha lv rfl)
      subst hb
      refine ⟨_, op_store_row 24 (.tmp 8) (.tmp 37) rfl rfl rfl h4 8 size8 (by rw [u32s_length, blockL_length]) (by rw [u32s_length]; rfl) (u32s_one _), hu.1.putOther h3 _, below_setRow hu.2.1 h2 _, fun v hv => ?_⟩
      obtain rfl := Option.some.inj ((ha _ rfl).symm.trans hv)
      refine ⟨b, rfl, h2, h3, ?_⟩
      rw [if_neg (by omega)]
      exact h4.put _
    try simp only [Act.put, List.setIfInBounds_toArray, List.set_cons_zero, List.set_cons_succ]
    refine Late.pure_ (by decide) (by rfl) (by rfl) rfl (fun K hK => ?_)
    go_big_quiet_op
    refine hK _ ?_
    clear hK K
    refine Late.nil_ ?_
    rintro u ⟨hR2, hB2, hov⟩
    obtain ⟨b, hb1, hb2, hb3, hRk⟩ := hov _ rfl
    subst hb1
    rw [if_neg (by omega)] at hRk
    have hF' : Hid (feedL (f - 1) (blockL g (r.extract 0 64) ((t : Int) + 64) false) (r.extract 64 r.size) ((t + 64 : Nat) : Int) = F) := by
      obtain ⟨f, rfl⟩ : ∃ i, f = i + 1 := ⟨f - 1, by omega⟩
      have h2 := HF.out
      rw [feedL, if_pos h64] at h2
      exact Lib.hid h2
    have HX := Lib.hid (blockL_length g (r.extract 0 64) ((t : Int) + 64) false)
    obtain ⟨x, hx⟩ : ∃ x, x = (blockL g (r.extract 0 64) ((t : Int) + 64) false) := ⟨_, rfl⟩
    rw [← hx] at hRk hF' HX ⊢
    clear hov HF hx
    have hR3 := hR2.put (u32s x)
    have hB3 := below_setRow hB2 (g := U.heap.size) hb0.size (u32s x).toArray
    go_wp2_with (first | (refine wpList_load_row rfl 24 (.tmp 8) rfl b rfl 24 (u32s x).toArray (0, 0) _ hRk Tryd.underlying24 rfl (by rw [size8, List.size_toArray, u32s_length, HX.out]) ?_) | (refine wpList_store_row rfl 24 (.tmp 4) (.tmp 41) rfl U.heap.size (u32s x).toArray rfl rfl 24 (u32s g).toArray hR2 (by rw [size8, List.size_toArray, u32s_length, HX.out]) (by rw [List.size_toArray, List.size_toArray, u32s_length, u32s_length, HG.out, HX.out]) (by rw [Array.all_eq_true_iff_forall_mem]; intro z hz; exact u32s_one _ z (by simpa using hz)) ?_))
    clear hR2 hB2 hRk
    generalize World.setRow _ _ _ = W5 at *
    go_roundw
    case rel => exact ⟨f - 1, _, _, t + 64, rfl, by go_num, by rw [ByteArray.size_extract]; omega, by rw [ByteArray.size_extract]; omega, HX.out, hF', hR3, hB3⟩
    case measure => simp; omega
  have HFF : Hid (blockL g (padB r) ((t : Int) + (r.size : Int)) true = F) := by
    obtain ⟨f, rfl⟩ : ∃ i, f = i + 1 := ⟨f - 1, by omega⟩
    have h2 := HF.out
    rw [feedL, if_neg h64] at h2
    exact Lib.hid h2
  clear HF
  go_wp2_with fail
  go_loopw [6] (fun x u => ∃ k : Nat, r.size + k ≤ 64 ∧ x = .string (zeroB r k) ∧ RowIs u U.heap.size 24 (u32s g) ∧ Below w.heap.size w u) (fun x _ => match x with | .string r => 64 - r.size | _ => 0)
  case atStart => exact ⟨0, by omega, by rw [zeroB_zero], hR, hB⟩
  case round =>
  clear hR hB
  obtain ⟨k, hk, rfl, hR, hB⟩ := hrel
  by_cases hlt : r.size + k < 64
  · have hz := zeroB_size r k
    have hn := Lib.hid (zeroB_next r k)
    have hz2 := zeroB_size r (k + 1)
    obtain ⟨r', hr⟩ : ∃ r', r' = zeroB r k := ⟨_, rfl⟩
    rw [← hr] at hz hn ⊢
    clear hr
    have hc : ¬ 9223372036854775807 < r'.size + 1 := by omega
    have dk : decide ((r'.size : Int) < 64) = true := by simp; omega
    go_wp2
    go_roundw
    case rel => exact ⟨k + 1, by omega, by rw [← hn.out], hR, hB⟩
    case measure =>
      show 64 - (r' ++ ⟨#[0]⟩).size < 64 - r'.size
      rw [hn.out, hz2]
      omega
  have hk64 : k = 64 - r.size := by omega
  subst hk64
  rw [zeroB_pad]
  have hpr : (padB r).size = 64 := padB_size r (by omega)
  have HPR := Lib.hid hpr
  have dk : decide (((padB r).size : Int) < 64) = false := by simp; omega
  clear hpr
  have hsz : (Tryd.prog.info? 24).map (·.size) = some (u32s g).toArray.size := by rw [size8, List.size_toArray, u32s_length, HG.out]
  go_wp2_with (first | (refine wpList_load_row rfl 24 (.tmp 4) rfl U.heap.size rfl 24 (u32s g).toArray (0, 0) _ hR Tryd.underlying24 rfl hsz ?_) | (go_at_call 14; refine Pause'.out ?_))
  constructor
  refine (block_ok g HG.out (padB r) HPR.out _ true _ (hT.below hB hT.size)).mono ?_
  rintro e u4 ⟨rfl, hb⟩
  rw [HFF.out]
  replace hR := hR.below hb
  replace hB := hB.trans (hb.mono hB.size)
  clear hb dk hsz
  have hR' := hR.put (u32s F)
  have hB' := below_setRow hB (g := U.heap.size) hb0.size (u32s F).toArray
  have hd32 := HDS.out
  have hd32' : (d.size : Int) = 32 := by omega
  go_wp2_with (first | (refine wpList_store_row rfl 24 (.tmp 4) (.tmp 59) rfl U.heap.size (u32s F).toArray rfl rfl 24 (u32s g).toArray hR (by rw [size8, List.size_toArray, u32s_length, HL.out]) (by rw [List.size_toArray, List.size_toArray, u32s_length, u32s_length, HG.out, HL.out]) (by rw [Array.all_eq_true_iff_forall_mem]; intro z hz; exact u32s_one _ z (by simpa using hz)) ?_) | (go_at_call 16; refine Pause'.out ?_))
  constructor
  clear hR hB
  generalize World.setRow _ _ _ = W5 at *
  refine (HA.out _ (hT.below hB' hT.size)).mono ?_
  rintro e u6 ⟨rfl, hb⟩
  replace hR' := hR'.below hb
  replace hB' := hB'.trans (hb.mono hB'.size)
  clear hb HA
  go_wp2_with fail
  go_loopw [12] (fun c u => ∃ i : Nat, i ≤ 8 ∧ c = .int .i64 i ∧ RowIs u U.heap.size 24 (u32s F) ∧ Below w.heap.size w u) (fun c _ => 8 - (intOf c).toNat)
  case atStart => exact ⟨0, by omega, rfl, hR', hB'⟩
  case round =>
  clear hR' hB'
  obtain ⟨i, hi, rfl, hR, hB⟩ := hrel
  by_cases hli : i < 8
  · have i0 : (i : Int) < 8 := by omega
    clear hd32'
    have n0 : 4 * i < d.size := by omega
    have n1 : 4 * i + 1 < d.size := by omega
    have n2 : 4 * i + 2 < d.size := by omega
    have n3 : 4 * i + 3 < d.size := by omega
    have z0 : 0 ≤ 4 * (i : Int) := by omega
    have z1 : 0 ≤ 4 * (i : Int) + 1 := by omega
    have z2 : 0 ≤ 4 * (i : Int) + 2 := by omega
    have z3 : 0 ≤ 4 * (i : Int) + 3 := by omega
    have x0 : 4 * (i : Int) < (d.size : Int) := by omega
    have x1 : 4 * (i : Int) + 1 < (d.size : Int) := by omega
    have x2 : 4 * (i : Int) + 2 < (d.size : Int) := by omega
    have x3 : 4 * (i : Int) + 3 < (d.size : Int) := by omega
    have di : decide ((i : Int) < 8) = true := by simp; omega
    clear hd32
    go_wp2_with fail
    refine Fam.wp_region_fam [] (fun _ u => RowIs u U.heap.size 24 (u32s F) ∧ Below w.heap.size w u) (by kernel_rfl) (by kernel_rfl) ⟨hR, hB.drew⟩ ?_
    refine Fam.pure_ (by rfl) (by rfl) rfl (fun K hK => ?_)
    go_big_quiet_op
    refine hK _ ?_
    clear hK K
    refine Fam.pure_ (by rfl) (by rfl) rfl (fun K hK => ?_)
    go_big_quiet_op
    refine hK _ ?_
    clear hK K
    refine Fam.pure_ (by rfl) (by rfl) rfl (fun K hK => ?_)
    go_big_quiet_op
    refine hK _ ?_
    clear hK K
    refine Fam.pure_ (by rfl) (by rfl) rfl (fun K hK => ?_)
    go_big_quiet_op
    refine hK _ ?_
    clear hK K
    refine Fam.pure_ (by rfl) (by rfl) rfl (fun K hK => ?_)
    go_big_quiet_op
    refine hK _ ?_
    clear hK K
    refine Fam.pure_ (by rfl) (by rfl) rfl (fun K hK => ?_)
    go_big_quiet_op
    refine hK _ ?_
    clear hK K
    refine Fam.pure_ (by rfl) (by rfl) rfl (fun K hK => ?_)
    go_big_quiet_op
    refine hK _ ?_
    clear hK K
    refine Fam.pure_ (by rfl) (by rfl) rfl (fun K hK => ?_)
    go_big_quiet_op
    refine hK _ ?_
    clear hK K
    refine Fam.pure_ (by rfl) (by rfl) rfl (fun K hK => ?_)
    go_big_quiet_op
    refine hK _ ?_
    clear hK K
    refine Fam.pure_ (by rfl) (by rfl) rfl (fun K hK => ?_)
    go_big_quiet_op
    refine hK _ ?_
    clear hK K
    refine Fam.pure_ (by rfl) (by rfl) rfl (fun K hK => ?_)
    go_big_quiet_op
    refine hK _ ?_
    clear hK K
    refine Fam.pure_ (by rfl) (by rfl) rfl (fun K hK => ?_)
    go_big_quiet_op
    refine hK _ ?_
    clear hK K
    refine Fam.pure_ (by rfl) (by rfl) rfl (fun K hK => ?_)
    go_big_quiet_op
    refine hK _ ?_
    clear hK K
    refine Fam.pure_ (by rfl) (by rfl) rfl (fun K hK => ?_)
    go_big_quiet_op
    refine hK _ ?_
    clear hK K
    refine Fam.pure_ (by rfl) (by rfl) rfl (fun K hK => ?_)
    go_big_quiet_op
    refine hK _ ?_
    clear hK K
    refine Fam.pure_ (by rfl) (by rfl) rfl (fun K hK => ?_)
    go_big_quiet_op
    refine hK _ ?_
    clear hK K
    refine Fam.pure_ (by rfl) (by rfl) rfl (fun K hK => ?_)
    go_big_quiet_op
    refine hK _ ?_
    clear hK K
    refine Fam.pure_ (by rfl) (by rfl) rfl (fun K hK => ?_)
    go_big_quiet_op
    refine hK _ ?_
    clear hK K
    refine Fam.pure_ (by rfl) (by rfl) rfl (fun K hK => ?_)
    go_big_quiet_op
    refine hK _ ?_
    clear hK K
    refine Fam.pure_ (by rfl) (by rfl) rfl (fun K hK => ?_)
    go_big_quiet_op
    refine hK _ ?_
    clear hK K
    refine Fam.pure_ (by rfl) (by rfl) rfl (fun K hK => ?_)
    go_big_quiet_op
    refine hK _ ?_
    clear hK K
    refine Fam.pure_ (by rfl) (by rfl) rfl (fun K hK => ?_)
    go_big_quiet_op
    refine hK _ ?_
    clear hK K
    refine Fam.pure_ (by rfl) (by rfl) rfl (fun K hK => ?_)
    go_big_quiet_op
    refine hK _ ?_
    clear hK K
    refine Fam.pure_ (by rfl) (by rfl) rfl (fun K hK => ?_)
    go_big_quiet_op
    refine hK _ ?_
    clear hK K
    refine Fam.pure_ (by rfl) (by rfl) rfl (fun K hK => ?_)
    go_big_quiet_op
    refine hK _ ?_
    clear hK K
    refine Fam.pure_ (by rfl) (by rfl) rfl (fun K hK => ?_)
    go_big_quiet_op
    refine hK _ ?_
    clear hK K
    refine Fam.pure_ (by rfl) (by rfl) rfl (fun K hK => ?_)
    go_big_quiet_op
    refine hK _ ?_
    clear hK K
    refine Fam.pure_ (by rfl) (by rfl) rfl (fun K hK => ?_)
    go_big_quiet_op
    refine hK _ ?_
    clear hK K
    refine Fam.pure_ (by rfl) (by rfl) rfl (fun K hK => ?_)
    go_big_quiet_op
    refine hK _ ?_
    clear hK K
    refine Fam.pure_ (by rfl) (by rfl) rfl (fun K hK => ?_)
    go_big_quiet_op
    refine hK _ ?_
    clear hK K
    refine Fam.nil_ ?_
    rintro u5 ⟨hR5, hB5⟩
    have hcmp : (((d[4 * i].toNat : Int) + 256 * ((d[4 * i + 1].toNat : Int) % 4294967296) + 65536 * ((d[4 * i + 2].toNat : Int) % 4294967296) + 16777216 * ((d[4 * i + 3].toNat : Int) % 4294967296)) % 4294967296 != F[i]?.getD 0) = false := by
      have hb := word_back F HL.out HW.out i hli
      rw [← HDA.out, ← HDA.out, ← HDA.out, ← HDA.out, ← byteAt' d _ n0, ← byteAt' d _ n1, ← byteAt' d _ n2, ← byteAt' d _ n3] at hb
      rw [List.getD_eq_getElem?_getD] at hb
      have hr := HW.out i hli
      rw [List.getD_eq_getElem?_getD] at hr
      have l0 := (d[4 * i]).toNat_lt; have l1 := (d[4 * i + 1]).toNat_lt; have l2 := (d[4 * i + 2]).toNat_lt; have l3 := (d[4 * i + 3]).toNat_lt
      rw [bne_eq_false_iff_eq]
      omega
    have c0 := hR5.cell (u32s_get _ i (by rw [HL.out]; omega))
    go_wp2
    go_roundw
    case rel => exact ⟨i + 1, by omega, by go_num, hR5, hB5⟩
    case measure => first | (simp [intOf]; done) | (simp [intOf]; omega)
  obtain rfl : i = 8 := by omega
  go_wp2
  all_goals go_ret
  all_goals exact ⟨rfl, hB⟩
end Go.Proofs.YtocfaglcaefnoaaDoor
