/- cartoucheref03.Top: the input of the crown, by the document; in the form that the print takes. -/
import Derived.Test.YtjlpjpjodhkpdaaGreatDoorRefB
import Derived.Test.YtjlpjpjodhkpdaaGreatDoorTrM
set_option maxHeartbeats 2000000
set_option maxRecDepth 100000
set_option linter.unusedVariables false
set_option linter.unusedSimpArgs false
namespace Go.Proofs.YtjlpjpjodhkpdaaGreatDoor
open Go.RowKit Go.Proofs.YtjlpjpjodhkpdaaGreatDoorW.PrintWords
theorem rhalf_any (n : Nat) (hn : n ≤ 2305843009213693952) (w : World) :
 Calls Tryz.prog 55 #[.int .i64 (n : Int)] w fun e w' => e = .returned (.int .i64 (TM.halfN n : Int)) ∧ Below w.heap.size w w' := by
 have hB := Below.refl w.heap.size w
 obtain ⟨r, hr⟩ : ∃ r, r = TM.halfN n := ⟨_, rfl⟩
 rw [← hr]
 have HR : Hid (TM.halfFrom 1 n = r) := Lib.hid hr.symm
 clear hr
 go_enter Tryz.func55, Tryz.ntmps55
 go_wp2
 go_loopw [3] (fun x u => ∃ j : Nat, 0 < j ∧ j ≤ n + 1 ∧ x = .int .i64 (j : Int) ∧ Hid (TM.halfFrom j n = r) ∧ Below w.heap.size w u) (fun x _ => n + 1 - (intOf x).toNat)
 case atStart => exact ⟨1, by omega, by omega, rfl, HR, hB⟩
 case round =>
  clear hB HR
  obtain ⟨j, h0, hj, rfl, HR, hB⟩ := hrel
  have hE := HR.out
  rw [TM.halfFrom] at hE
  by_cases hc : 2 * j < n
  · rw [if_pos ⟨h0, hc⟩] at hE
    have HE := Lib.hid hE
    clear hE HR
    have hd : decide ((j : Int) + (j : Int) < (n : Int)) = true := by simp; omega
    go_wp2
    go_roundw
    case rel => exact ⟨2 * j, by omega, by omega, by congr 1; omega, HE, hB⟩
    case measure => simp [intOf]; omega
  · rw [if_neg (fun h => hc h.2)] at hE
    subst hE
    clear HR
    have hd : decide ((j : Int) + (j : Int) < (n : Int)) = false := by simp; omega
    go_wp2
    go_ret
    exact ⟨rfl, hB⟩
theorem rleaf_any (s : ByteArray) (hs : s.size ≤ 562949953421311) (w : World) :
 Calls Tryz.prog 83 #[.string s] w fun e w' => e = .returned (.string (TM.leafB s)) ∧ Below w.heap.size w w' := by
 have hB := Below.refl w.heap.size w
 have h1 : 1 + s.size ≤ 9223372036854775807 := by omega
 have c1 := eq_true h1
 have c2 : (9223372036854775807 < 1 + s.size) = False := eq_false (Nat.not_lt.2 h1)
 unfold TM.leafB
 clear hs h1
 go_enter Tryz.func83, Tryz.ntmps83
 go_wp2
 go_ret
 exact ⟨rfl, hB⟩
theorem rnode_any (a b : ByteArray) (hs : a.size + b.size ≤ 562949953421311) (w : World) :
 Calls Tryz.prog 84 #[.string a, .string b] w fun e w' => e = .returned (.string (TM.nodeB a b)) ∧ Below w.heap.size w w' := by
 have hB := Below.refl w.heap.size w
 have h1 : 1 + a.size ≤ 9223372036854775807 := by omega
 have h2 : ((⟨#[1]⟩ : ByteArray) ++ a).size + b.size ≤ 9223372036854775807 := by
  rw [ByteArray.size_append]
  show 1 + a.size + b.size ≤ _
  omega
 have c1 := eq_true h1
 have c2 : (9223372036854775807 < 1 + a.size) = False := eq_false (Nat.not_lt.2 h1)
 have c3 := eq_true h2
 have c4 : (9223372036854775807 < ((⟨#[1]⟩ : ByteArray) ++ a).size + b.size) = False := eq_false (Nat.not_lt.2 h2)
 have c5 : (9223372036854775807 < 1 + a.size + b.size) = False := eq_false (by omega)
 unfold TM.nodeB
 clear hs h1 h2
 go_enter Tryz.func84, Tryz.ntmps84
 go_wp2
 go_ret
 exact ⟨rfl, hB⟩
theorem rtop_any : ∀ (n : Nat) (l : List ByteArray) (A0 : Option Addr) (c0 : Nat) (w : World), l.length = n → 1 ≤ n → n ≤ 2305843009213693952 → (∀ s ∈ l, s.size ≤ 562949953421311) →
 Kd.C Kd.string w A0 l.length l → l.length ≤ c0 →
 Calls Tryz.prog 50 #[.slice A0 l.length c0] w fun e w' => e = .returned (.string (TM.topL sumB l)) ∧ Below w.heap.size w w' := by
 intro n
 induction n using Nat.strongRecOn with
 | ind n ih =>
   intro l A0 c0 w hn h0 hmax hs hr hc
   have hB := Below.refl w.heap.size w
   by_cases h1 : n = 1
   · obtain ⟨s, rfl⟩ := List.length_eq_one_iff.1 (show l.length = 1 by omega)
     rw [TM.topL_one]
     have hs' := hs s (by simp)
     obtain ⟨ad, rfl, hcell⟩ := Kd.at_string hr 0 (by omega) (by simp)
     have hcl : w.cell? (ad.add (Int.toNat 0)) = some (.string s) := hcell
     rw [show (0 : Int).toNat = 0 from rfl, Addr.add_zero'] at hcl
     have HL := Lib.hid (rleaf_any s hs')
     clear ih hs hr hc hmax hcell hs'
     go_enter Tryz.func50, Tryz.ntmps50
     go_wp2_with (go_at_call 83; refine (HL.out _).mono ?_)
     rintro e u ⟨rfl, hb⟩
     go_wp2
     go_ret
     exact ⟨rfl, hb⟩
   · have hp := TM.half_pos n; have hlt := TM.half_lt n (by omega)
     have hlA : (l.take (TM.halfN n)).length = TM.halfN n := by rw [List.length_take]; omega
     have hlB : (l.drop (TM.halfN n)).length = n - TM.halfN n := by rw [List.length_drop, hn]
     rw [TM.topL_two sumB l (by omega), hn]
     have hCA := Kd.C_take (m := TM.halfN n) hr (by omega)
     have hCB := Kd.C_drop (m := TM.halfN n) hr (by omega) hc
     obtain ⟨i0, hi, _, hsz, _⟩ := info_parts infoStr
     have hcutA := cut_to 45 9 .i64 Tryz.underlying45 hi A0 l.length c0 (TM.halfN n : Int) (by omega) (by omega) hc
     have hcutB := cut_from 45 9 .i64 Tryz.underlying45 hi 1 hsz A0 l.length c0 (TM.halfN n : Int) (by omega) (by omega)
     simp only [Int.toNat_natCast] at hcutA hcutB
     have IA := ih (TM.halfN n) hlt (l.take (TM.halfN n)) A0 c0
     have IB := ih (n - TM.halfN n) (by omega) (l.drop (TM.halfN n)) (if c0 = TM.halfN n then A0 else A0.map (·.add (TM.halfN n * 1))) (c0 - TM.halfN n)
     rw [hlA] at IA hCA
     rw [hlB] at IB hCB
     rw [hn] at hcutB
     have szA := top_size (l.take (TM.halfN n)) (fun s h => hs s (List.mem_of_mem_take h))
     have szB := top_size (l.drop (TM.halfN n)) (fun s h => hs s (List.mem_of_mem_drop h))
     have sA : ∀ s ∈ l.take (TM.halfN n), s.size ≤ 562949953421311 := fun s h => hs s (List.mem_of_mem_take h)
     have sB : ∀ s ∈ l.drop (TM.halfN n), s.size ≤ 562949953421311 := fun s h => hs s (List.mem_of_mem_drop h)
     have hH := rhalf_any n hmax
     have HN := Lib.hid (rnode_any (sumB (TM.topL sumB (l.take (TM.halfN n)))) (sumB (TM.topL sumB (l.drop (TM.halfN n)))) (by rw [sumB_size, sumB_size]; decide))
     have HA := Lib.hid (fun u (hb : Below w.heap.size w u) => IA u rfl (by omega) (by omega) sA (Kd.C_below hCA hb) (by omega))
     have HB' := Lib.hid (fun u (hb : Below w.heap.size w u) => IB u rfl (by omega) (by omega) sB (Kd.C_below hCB hb) (by omega))
     have HSA := Lib.hid (fun u => rsum_any (TM.topL sumB (l.take (TM.halfN n))) szA u)
     have HSB := Lib.hid (fun u => rsum_any (TM.topL sumB (l.drop (TM.halfN n))) szB u)
     have H1 := Lib.hid h1
     clear ih IA IB hCA hCB hr hs sA sB szA szB h1
     have hne : ((n : Int) == 1) = false := beq_eq_false_iff_ne.mpr (by have := H1.out; omega)
     subst hn
     generalize TM.topL sumB (l.take (TM.halfN l.length)) = tA at *
     generalize TM.topL sumB (l.drop (TM.halfN l.length)) = tB at *
     clear hlA hlB
     generalize TM.halfN l.length = k at *
     generalize sumB tA = xA at *
     generalize sumB tB = xB at *
     generalize TM.nodeB xA xB = out at *
     generalize (if c0 = k then A0 else Option.map (fun x => x.add (k * 1)) A0) = AB at *
     generalize l.length - k = nB at *
     generalize c0 - k = cB at *
     go_enter Tryz.func50, Tryz.ntmps50
     go_wp2_with (go_at_call 55; refine Pause'.out ?_)
     constructor
     refine (hH _).mono ?_
     rintro e u ⟨rfl, hb⟩
     replace hB := hb
     clear hb hH
     go_wp2
     refine Fam.wp_region_fam [3, 4, 8, 9, 10] (fun m u => Below w.heap.size w u) (by kernel_rfl) (by kernel_rfl) hB.drew ?_
     iterate 2 (refine Fam.pure_ (by rfl) (by rfl) rfl (fun K hK => ?_); go_big_quiet_op; refine hK _ ?_; clear hK K)
     refine Fam.any_ (.slice A0 k c0) (by rfl) (by rfl) (fun w => ?_) ?_
     · go_simp
     simp only [Act.put, List.setIfInBounds_toArray, List.set_cons_zero, List.set_cons_succ]
     refine Fam.effCall_ (.string tA) 50 ?_ (by rfl) (by rfl) (fun w => ?_) (fun u hu => ?_) ?_
     rotate_left
     · go_simp; rfl
     · exact (HA.out u hu).mono fun e u' ⟨he, hb⟩ => ⟨he, hu.trans (hb.mono hu.size)⟩
     simp only [Act.put, List.setIfInBounds_toArray, List.set_cons_zero, List.set_cons_succ]
     refine Fam.effCall_ (.string xA) 25 ?_ (by rfl) (by rfl) (fun w => ?_) (fun u hu => ?_) ?_
     rotate_left
     · go_simp; rfl
     · exact (HSA.out u).mono fun e u' ⟨he, hb⟩ => ⟨he, hu.trans (hb.mono hu.size)⟩
     simp only [Act.put, List.setIfInBounds_toArray, List.set_cons_zero, List.set_cons_succ]
     iterate 2 (refine Fam.pure_ (by rfl) (by rfl) rfl (fun K hK => ?_); go_big_quiet_op; refine hK _ ?_; clear hK K)
     refine Fam.any_ (.slice AB nB cB) (by rfl) (by rfl) (fun w => ?_) ?_
     · go_simp
     simp only [Act.put, List.setIfInBounds_toArray, List.set_cons_zero, List.set_cons_succ]
     refine Fam.effCall_ (.string tB) 50 ?_ (by rfl) (by rfl) (fun w => ?_) (fun u hu => ?_) ?_
     rotate_left
     · go_simp; rfl
     · exact (HB'.out u hu).mono fun e u' ⟨he, hb⟩ => ⟨he, hu.trans (hb.mono hu.size)⟩
     simp only [Act.put, List.setIfInBounds_toArray, List.set_cons_zero, List.set_cons_succ]
     refine Fam.effCall_ (.string xB) 25 ?_ (by rfl) (by rfl) (fun w => ?_) (fun u hu => ?_) ?_
     rotate_left
     · go_simp; rfl
     · exact (HSB.out u).mono fun e u' ⟨he, hb⟩ => ⟨he, hu.trans (hb.mono hu.size)⟩
     simp only [Act.put, List.setIfInBounds_toArray, List.set_cons_zero, List.set_cons_succ]
     refine Fam.effCall_ (.string out) 84 ?_ (by rfl) (by rfl) (fun w => ?_) (fun u hu => ?_) ?_
     rotate_left
     · go_simp; rfl
     · exact (HN.out u).mono fun e u' ⟨he, hb⟩ => ⟨he, hu.trans (hb.mono hu.size)⟩
     simp only [Act.put, List.setIfInBounds_toArray, List.set_cons_zero, List.set_cons_succ]
     refine Fam.pure_ (by rfl) (by rfl) rfl (fun K hK => ?_)
     go_big_quiet_op
     refine hK _ ?_
     clear hK K
     refine Fam.nil_ ?_
     intro u hu
     go_wp2
     go_ret
     exact ⟨rfl, hu⟩
def cartoucheref03_Top.f (l : List ByteArray) : Option ByteArray := tree_top.f l
theorem cartoucheref03_Top.calls (A0 : Option Addr) (c0 : Nat) (l0 : List ByteArray) (r : ByteArray) (w : World) (hr0 : Kd.C Kd.string w A0 l0.length l0) (hc0 : l0.length ≤ c0) (h : cartoucheref03_Top.f l0 = some r) :
 Calls Tryz.prog 50 #[.slice A0 l0.length c0] w fun e w' => e = .returned (.string r) ∧ Below w.heap.size w w' := by
 unfold cartoucheref03_Top.f tree_top.f at h
 by_cases hs : (1 ≤ l0.length ∧ l0.length ≤ 2305843009213693952) ∧ ∀ s ∈ l0, s.size ≤ 562949953421311
 · rw [if_pos hs] at h
   obtain rfl := Option.some.inj h
   exact rtop_any l0.length l0 A0 c0 w rfl hs.1.1 hs.1.2 hs.2 hr0 hc0
 · rw [if_neg hs] at h
   cases h
end Go.Proofs.YtjlpjpjodhkpdaaGreatDoor
