/- tree.unlike, tree.Clash (a labelled continue): what two proofs give away; in the form that the print takes. -/
import Derived.Deep.QuietTactic
import Derived.WalkMore
import Derived.Deep.RegionWith
import Derived.BigQuiet
import Derived.Test.YtlcmpmodfkmfnaaDoorClimb
set_option linter.unusedVariables false
set_option linter.unusedSimpArgs false
namespace Go.Proofs.YtlcmpmodfkmfnaaDoor
open Go.RowKit Go.Proofs.YtlcmpmodfkmfnaaDoorW.PrintWords

theorem bytes_inj {a b : ByteArray} (h : a.toList = b.toList) : a = b := by
  rw [Lib.toList_data, Lib.toList_data] at h
  exact ByteArray.ext (Array.toList_inj.1 h)
def tellL (o : Option (ByteArray × ByteArray)) : ByteArray × ByteArray × Bool := match o with | some (a, b) => (a, b, true) | none => (⟨#[]⟩, ⟨#[]⟩, false)
set_option maxHeartbeats 1000000 in
set_option maxRecDepth 100000 in
theorem unlike_any (a b : ByteArray) (ha : a.size ≤ 562949953421312) (hb : b.size ≤ 562949953421312) (w : World) (hT : Tabs w) :
    Calls Tryd.prog 44 #[.string a, .string b] w fun e w' => e = .returned (.tuple #[.string (tellL (TM.unlikeL sumB a b)).1, .string (tellL (TM.unlikeL sumB a b)).2.1, .bool (tellL (TM.unlikeL sumB a b)).2.2]) ∧ Below w.heap.size w w' := by
  have HB := Lib.hid (Below.refl w.heap.size w)
  by_cases h1 : a = b
  · have e1 : TM.unlikeL sumB a b = none := by unfold TM.unlikeL; rw [if_pos h1]
    rw [e1]
    have c1 : (a.toList == b.toList) = true := by rw [h1]; simp
    have c2 : (a.toList != b.toList) = false := by rw [h1]; simp
    clear h1 e1 hT
    go_enter Tryd.func44, Tryd.ntmps44
    go_wp2
    refine bodyPost_ret (v := .tuple #[.string ⟨#[]⟩, .string ⟨#[]⟩, .bool false]) (by simp [results, Tryd.results44, go_sem]) rfl ⟨rfl, HB.out⟩
  · have hne : ¬ a.toList = b.toList := fun e => h1 (bytes_inj e)
    have c1 : (a.toList == b.toList) = false := beq_eq_false_iff_ne.mpr hne
    have HSA := Lib.hid (fun u (hb : Below w.heap.size w u) => sum_any a ha u (hT.below hb hT.size))
    have HSB := Lib.hid (fun u (hb' : Below w.heap.size w u) => sum_any b hb u (hT.below hb' hT.size))
    by_cases h2 : sumB a = sumB b
    · have e1 : TM.unlikeL sumB a b = some (a, b) := by unfold TM.unlikeL; rw [if_neg h1, if_pos h2]
      rw [e1]
      have c3 : ((sumB a).toList != (sumB b).toList) = false := by rw [h2]; simp
      have c4 : ((sumB a).toList == (sumB b).toList) = true := by rw [h2]; simp
      clear h1 h2 e1 hT hne
      generalize sumB a = sa at *
      generalize sumB b = sb at *
      go_enter Tryd.func44, Tryd.ntmps44
      go_wp2_with (go_at_call 26; refine Pause'.out ?_)
      constructor
      refine (HSA.out _ HB.out).mono ?_
      rintro e u ⟨rfl, hb1⟩
      have HB1 := Lib.hid (HB.out.trans hb1)
      clear hb1 HSA
      go_wp2_with (go_at_call 26; refine Pause'.out ?_)
      constructor
      refine (HSB.out _ HB1.out).mono ?_
      rintro e u2 ⟨rfl, hb2⟩
      have HB2 := Lib.hid (HB1.out.trans (hb2.mono HB1.out.size))
      clear hb2 HSB
      go_wp2
      refine bodyPost_ret (v := .tuple #[.string a, .string b, .bool true]) (by simp [results, Tryd.results44, go_sem]) rfl ⟨rfl, HB2.out⟩
    · have e1 : TM.unlikeL sumB a b = none := by unfold TM.unlikeL; rw [if_neg h1, if_neg h2]
      rw [e1]
      have hne2 : ¬ (sumB a).toList = (sumB b).toList := fun e => h2 (bytes_inj e)
      have c3 : ((sumB a).toList != (sumB b).toList) = true := bne_iff_ne.mpr hne2
      have c4 : ((sumB a).toList == (sumB b).toList) = false := beq_eq_false_iff_ne.mpr hne2
      clear h1 h2 e1 hT hne hne2
      generalize sumB a = sa at *
      generalize sumB b = sb at *
      go_enter Tryd.func44, Tryd.ntmps44
      go_wp2_with (go_at_call 26; refine Pause'.out ?_)
      constructor
      refine (HSA.out _ HB.out).mono ?_
      rintro e u ⟨rfl, hb1⟩
      have HB1 := Lib.hid (HB.out.trans hb1)
      clear hb1 HSA
      go_wp2_with (go_at_call 26; refine Pause'.out ?_)
      constructor
      refine (HSB.out _ HB1.out).mono ?_
      rintro e u2 ⟨rfl, hb2⟩
      have HB2 := Lib.hid (HB1.out.trans (hb2.mono HB1.out.size))
      clear hb2 HSB
      go_wp2
      refine bodyPost_ret (v := .tuple #[.string ⟨#[]⟩, .string ⟨#[]⟩, .bool false]) (by simp [results, Tryd.results44, go_sem]) rfl ⟨rfl, HB2.out⟩

/-- What two proofs give away. -/
def tree_Clash.f (n i : Int) (a : ByteArray) (p : List ByteArray) (b : ByteArray) (q : List ByteArray) : Option (ByteArray × ByteArray × Bool) :=
  (tree_Climb.f n i a p).bind fun x => (tree_Climb.f n i b q).bind fun y => some (if x.2 ≠ 0 ∨ y.2 ≠ 0 then (⟨#[]⟩, ⟨#[]⟩, false) else tellL (TM.scanL sumB x.1.reverse y.1.reverse))
theorem climbf_ok {n i : Int} {a : ByteArray} {p : List ByteArray} {x : List ByteArray} {k : Int} (h : tree_Climb.f n i a p = some (x, k)) :
    (k ≠ 0 ∧ x = []) ∨ (k = 0 ∧ x.length = (TM.wayL 0 n.toNat i.toNat).length + 2 ∧ ∀ t ∈ x, t.size ≤ 562949953421312) := by
  unfold tree_Climb.f at h
  split at h
  · obtain ⟨rfl, rfl⟩ := Prod.mk.inj (Option.some.inj h)
    exact .inl ⟨by decide, rfl⟩
  · split at h
    · obtain ⟨rfl, rfl⟩ := Prod.mk.inj (Option.some.inj h)
      exact .inl ⟨by decide, rfl⟩
    · rename_i h1 h2
      split at h
      · rename_i h3
        obtain ⟨rfl, rfl⟩ := Prod.mk.inj (Option.some.inj h)
        have hp : p.length = (TM.wayL 0 n.toNat i.toNat).length := Decidable.byContradiction fun hn => h2 (.inl hn)
        have h32 : ∀ t ∈ p, t.size = 32 := fun t ht => Decidable.byContradiction fun hn => h2 (.inr ⟨t, ht, hn⟩)
        refine .inr ⟨rfl, ?_, fun t ht => ?_⟩
        · rw [List.length_append, TM.climbF_length sumB _ _ _ (by rw [TM.rights_length, hp]), TM.rights_length]
          simp
          omega
        · rcases List.mem_append.1 ht with ht | ht
          · rw [← outK_all hp] at ht
            exact outK_size h3 h32 hp _ (Nat.le_refl _) t ht
          · obtain rfl := List.mem_singleton.1 ht
            unfold rootB
            rw [ByteArray.size_append, ByteArray.size_append, sumB_size]
            have := numB_size n.toNat
            show 1 + _ + 32 ≤ _
            omega
      · cases h

set_option maxHeartbeats 4000000 in
set_option maxRecDepth 100000 in
theorem tree_Clash.calls (a0 a1 : Int) (a2 : ByteArray) (A3 : Option Addr) (c3 : Nat) (l3 : List ByteArray) (a4 : ByteArray) (A5 : Option Addr) (c5 : Nat) (l5 : List ByteArray) (r1 r2 : ByteArray) (r3 : Bool) (w : World) (hT : Tabs w)
    (hr3 : Kd.C Kd.string w A3 l3.length l3) (hc3 : l3.length ≤ c3) (hr5 : Kd.C Kd.string w A5 l5.length l5) (hc5 : l5.length ≤ c5) (h : tree_Clash.f a0 a1 a2 l3 a4 l5 = some (r1, r2, r3)) :
    Calls Tryd.prog 30 #[.int .i64 a0, .int .i64 a1, .string a2, .slice A3 l3.length c3, .string a4, .slice A5 l5.length c5] w fun e w' => e = .returned (.tuple #[.string r1, .string r2, .bool r3]) ∧ Below w.heap.size w w' := by
  unfold tree_Clash.f at h
  obtain ⟨⟨xs, kx⟩, hX, h⟩ := Option.bind_eq_some_iff.mp h
  obtain ⟨⟨ys, ky⟩, hY, h⟩ := Option.bind_eq_some_iff.mp h
  have HXok := climbf_ok hX; have HYok := climbf_ok hY
  have HX := Lib.hid (tree_Climb.calls a0 a1 a2 A3 c3 l3 xs kx w hT hr3 hc3 hX)
  have HY := Lib.hid (fun u (hb : Below w.heap.size w u) => tree_Climb.calls a0 a1 a4 A5 c5 l5 ys ky u (hT.below hb hT.size) (Kd.C_below hr5 hb) hc5 hY)
  have H := Lib.hid h; have HOX := Lib.hid HXok; have HOY := Lib.hid HYok; have HT := Lib.hid hT
  clear h hX hY HXok HYok hT hr3 hr5
  go_enter Tryd.func30, Tryd.ntmps30
  go_wp2
  go_step3
  go_wp2_with (go_at_call 25; refine Pause'.out ?_)
  constructor
  refine HX.out.mono ?_
  rintro e u1 ⟨v1, rfl, hR1, hb1⟩
  have HB1 := Lib.hid hb1
  obtain ⟨B1, d1, rfl⟩ := Kd.R_slice hR1
  have HR1 := Lib.hid hR1
  clear hR1 hb1 HX
  go_wp2_with (go_at_call 25; refine Pause'.out ?_)
  constructor
  refine (HY.out _ HB1.out).mono ?_
  rintro e u2 ⟨v2, rfl, hR2, hb2⟩
  obtain ⟨B2, d2, rfl⟩ := Kd.R_slice hR2
  obtain ⟨_, hle1, hC1⟩ := Kd.R_reads' HR1.out
  obtain ⟨_, hle2, hC2⟩ := Kd.R_reads' hR2
  have HC1 := Lib.hid (Kd.C_below hC1 hb2)
  have HC2 := Lib.hid hC2
  have HB2 := Lib.hid (HB1.out.trans (hb2.mono HB1.out.size))
  clear hR2 hb2 HY hC1 hC2 hle1 hle2 HR1 HB1
  rcases HOX.out with ⟨h1, _⟩ | ⟨h1, hlx, hsx⟩
  · have hb : (kx != 0) = true := bne_iff_ne.mpr h1
    have H2 := H.out
    rw [if_pos (.inl h1)] at H2
    obtain ⟨rfl, h2⟩ := Prod.mk.inj (Option.some.inj H2)
    obtain ⟨rfl, rfl⟩ := Prod.mk.inj h2
    clear H2 h2 h1 H HOX HOY
    go_wp2
    rw [Exit.noGoto_ret]
    refine bodyPost_ret (v := .tuple #[.string ⟨#[]⟩, .string ⟨#[]⟩, .bool false]) (by simp [results, Tryd.results30, go_sem]) rfl ⟨rfl, HB2.out⟩
  · subst h1
    rcases HOY.out with ⟨h1, _⟩ | ⟨h1, hly, hsy⟩
    · have hb : (ky != 0) = true := bne_iff_ne.mpr h1
      have H2 := H.out
      rw [if_pos (.inr h1)] at H2
      obtain ⟨rfl, h2⟩ := Prod.mk.inj (Option.some.inj H2)
      obtain ⟨rfl, rfl⟩ := Prod.mk.inj h2
      clear H2 h2 h1 H HOX HOY hsx
      have HLX := Lib.hid hlx
      clear hlx
      go_wp2
      rw [Exit.noGoto_ret]
      refine bodyPost_ret (v := .tuple #[.string ⟨#[]⟩, .string ⟨#[]⟩, .bool false]) (by simp [results, Tryd.results30, go_sem]) rfl ⟨rfl, HB2.out⟩
    · subst h1
      have H2 := H.out
      rw [if_neg (by simp)] at H2
      have HT2 := Lib.hid (Option.some.inj H2)
      have HLX := Lib.hid hlx; have HLY := Lib.hid hly; have HSX := Lib.hid hsx; have HSY := Lib.hid hsy
      have hlen : xs.length = ys.length := by omega
      have h12 : xs.length ≤ 9223372036854775807 := by
        have := HC1.out.2.1
        unfold maxLen at this
        omega
      have HLN := Lib.hid hlen
      clear H2 H HOX HOY hlx hly hsx hsy hlen h
      go_wp2
      go_step3
      go_wp2
      go_loopw [19] (fun x u => ∃ j : Nat, x = .int .i64 ((j : Int) - 1) ∧ j ≤ xs.length ∧ Hid (tellL (TM.scanL sumB (xs.take j).reverse (ys.take j).reverse) = (r1, r2, r3)) ∧ Below u2.heap.size u2 u) (fun x _ => (intOf x + 1).toNat)
      case atStart => exact ⟨xs.length, rfl, Nat.le_refl _, Lib.hid (by rw [List.take_of_length_le (Nat.le_refl _), HLN.out, List.take_of_length_le (Nat.le_refl _)]; exact HT2.out), Below.refl _ _⟩
      case round =>
        clear HT2
        obtain ⟨j, rfl, hj, HT2, hB⟩ := hrel
        cases j with
        | zero =>
          have hd : decide ((0 : Int) ≤ ((0 : Nat) : Int) - 1) = false := by simp
          have h2 : ((⟨#[]⟩ : ByteArray), (⟨#[]⟩ : ByteArray), false) = (r1, r2, r3) := HT2.out
          obtain ⟨rfl, h3⟩ := Prod.mk.inj h2
          obtain ⟨rfl, rfl⟩ := Prod.mk.inj h3
          clear h2 h3
          go_wp2
          rw [Exit.noGoto_ret]
          refine bodyPost_ret (v := .tuple #[.string ⟨#[]⟩, .string ⟨#[]⟩, .bool false]) (by simp [results, Tryd.results30, go_sem]) rfl ⟨rfl, HB2.out.trans (hB.mono HB2.out.size)⟩
        | succ j =>
          have hjj : (((j + 1 : Nat) : Int) - 1) = (j : Int) := by omega
          rw [hjj]
          have hd : decide ((0 : Int) ≤ (j : Int)) = true := by simp
          have hly : j < ys.length := by rw [← HLN.out]; exact hj
          obtain ⟨ad1, rfl, hq1⟩ := Kd.at_string (Kd.C_below HC1.out hB) j (by omega) (by omega)
          obtain ⟨ad2, rfl, hq2⟩ := Kd.at_string (Kd.C_below HC2.out hB) j (by omega) (by omega)
          have e1 : (xs.take (j + 1)).reverse = xs.getD j ByteArray.empty :: (xs.take j).reverse := by
            rw [List.take_succ_eq_append_getElem (by omega), List.reverse_append, List.getD_eq_getElem?_getD, List.getElem?_eq_getElem (by omega)]
            rfl
          have e2 : (ys.take (j + 1)).reverse = ys.getD j ByteArray.empty :: (ys.take j).reverse := by
            rw [List.take_succ_eq_append_getElem hly, List.reverse_append, List.getD_eq_getElem?_getD, List.getElem?_eq_getElem hly]
            rfl
          have hq1' : wr.cell? (ad1.add j) = some (.string (xs.getD j ByteArray.empty)) := hq1
          have hq2' : wr.cell? (ad2.add j) = some (.string (ys.getD j ByteArray.empty)) := hq2
          have h2 := HT2.out
          rw [e1, e2, TM.scanL] at h2
          have s1 : (xs.getD j ByteArray.empty).size ≤ 562949953421312 := HSX.out _ (by
            rw [List.getD_eq_getElem?_getD, List.getElem?_eq_getElem (by omega)]
            exact List.getElem_mem _)
          have s2 : (ys.getD j ByteArray.empty).size ≤ 562949953421312 := HSY.out _ (by
            rw [List.getD_eq_getElem?_getD, List.getElem?_eq_getElem hly]
            exact List.getElem_mem _)
          generalize xs.getD j ByteArray.empty = x at *
          generalize ys.getD j ByteArray.empty = y at *
          have hw1 : wr.drew.cell? (ad1.add j) = some (.string x) := hq1'
          have hw2 : wr.drew.cell? (ad2.add j) = some (.string y) := hq2'
          clear hq1 hq2 hq1' hq2' e1 e2 hjj HT2
          have HBr := Lib.hid (HB2.out.trans (hB.mono HB2.out.size))
          by_cases hxy : x = y
          · rw [if_pos hxy] at h2
            have HT3 := Lib.hid h2
            have c1 : (x.toList == y.toList) = true := by rw [hxy]; simp
            have HB := Lib.hid hB
            clear h2 hxy s1 s2 hB
            go_wp2
            go_region
            go_wp2
            go_roundw
            case rel => exact ⟨j, rfl, by omega, HT3, HB.out.drew⟩
            case measure => simp [intOf]
          · rw [if_neg hxy] at h2
            have c1 : (x.toList == y.toList) = false := beq_eq_false_iff_ne.mpr (fun e => hxy (bytes_inj e))
            have HU := Lib.hid (fun u (hb : Below w.heap.size w u) => unlike_any x y s1 s2 u (HT.out.below hb HT.out.size))
            rw [h2] at HU
            clear h2 hxy s1 s2 hB
            have hv1 : wr.drew.drew.cell? (ad1.add j) = some (.string x) := hw1
            have hv2 : wr.drew.drew.cell? (ad2.add j) = some (.string y) := hw2
            go_wp2
            go_region
            go_wp2
            go_region_with (go_at_call 44; refine (HU.out _ HBr.out.drew.drew).mono ?_; rintro e u ⟨rfl, hbu⟩)
            all_goals
              go_wp2
              rw [Exit.noGoto_ret]
              refine bodyPost_ret (v := .tuple #[.string r1, .string r2, .bool r3]) (by simp [results, Tryd.results30, go_sem]) rfl ⟨rfl, HBr.out.drew.drew.trans (hbu.mono HBr.out.drew.drew.size)⟩
end Go.Proofs.YtlcmpmodfkmfnaaDoor
