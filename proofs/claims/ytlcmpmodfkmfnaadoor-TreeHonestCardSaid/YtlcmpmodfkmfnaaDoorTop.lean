/- tree.leaf, tree.node, tree.top (a function value that calls itself), tree.crown; in the form that the print takes. -/
import Derived.Test.YtlcmpmodfkmfnaaDoorSumM
import Derived.Test.YtlcmpmodfkmfnaaDoorHalf
import Derived.Laws.EntriesVeiled
set_option linter.unusedVariables false
set_option linter.unusedSimpArgs false
namespace Go.Proofs.YtlcmpmodfkmfnaaDoor
open Go.RowKit Go.Proofs.YtlcmpmodfkmfnaaDoorW.PrintWords

set_option maxHeartbeats 1000000 in
set_option maxRecDepth 100000 in
theorem leaf_any (s : ByteArray) (hs : s.size ≤ 562949953421311) (w : World) :
    Calls Tryd.prog 40 #[.string s] w fun e w' => e = .returned (.string (TM.leafB s)) ∧ Below w.heap.size w w' := by
  have hB := Below.refl w.heap.size w
  have h1 : 1 + s.size ≤ 9223372036854775807 := by omega
  have c1 := eq_true h1
  have c2 : (9223372036854775807 < 1 + s.size) = False := eq_false (Nat.not_lt.2 h1)
  unfold TM.leafB
  clear hs h1
  go_enter Tryd.func40, Tryd.ntmps40
  go_wp2
  go_ret
  exact ⟨rfl, hB⟩
set_option maxHeartbeats 1000000 in
set_option maxRecDepth 100000 in
theorem node_any (a b : ByteArray) (hs : a.size + b.size ≤ 562949953421311) (w : World) :
    Calls Tryd.prog 42 #[.string a, .string b] w fun e w' => e = .returned (.string (TM.nodeB a b)) ∧ Below w.heap.size w w' := by
  have hB := Below.refl w.heap.size w
  have h1 : 1 + a.size ≤ 9223372036854775807 := by omega
  have h2 : ((⟨#[1]⟩ : ByteArray) ++ a).size + b.size ≤ 9223372036854775807 := by
    rw [ByteArray.size_append]
    show 1 + a.size + b.size ≤ _
    omega
  have c1 := eq_true h1
  have c2 : (9223372036854775807 < 1 + a.size) = False := eq_false (Nat.not_lt.2 h1)
  have c3 := eq_true h2
  have c4 : (9223372036854775807 < ((⟨#[1]⟩ : ByteArray) ++ a).size + b.size) = False := eq_false (Nat.not_lt.2 h2)
  have c5 : (9223372036854775807 < 1 + a.size + b.size) = False := eq_false (by omega)
  unfold TM.nodeB
  clear hs h1 h2
  go_enter Tryd.func42, Tryd.ntmps42
  go_wp2
  go_ret
  exact ⟨rfl, hB⟩
theorem infoStr : (Tryd.prog.info? 9).map (fun i => (i.zero, i.size, i.bytes)) = some (some (.string ⟨#[]⟩), 1, 16) := by kernel_rfl
theorem top_size (l : List ByteArray) (h : ∀ s ∈ l, s.size ≤ 562949953421311) : (TM.topL sumB l).size ≤ 562949953421312 := by
  by_cases h1 : 1 < l.length
  · rw [TM.topL_two sumB l h1]
    unfold TM.nodeB
    rw [ByteArray.size_append, ByteArray.size_append, sumB_size, sumB_size]
    decide
  · rw [TM.topL, dif_neg h1]
    unfold TM.leafB
    rw [ByteArray.size_append]
    cases l with
    | nil => decide
    | cons s l =>
      have := h s (by simp)
      show 1 + s.size ≤ _
      omega
abbrev ofF (B : Nat) : Value := .func (.func 71) #[] #[.pointer (some ⟨B, 0, none⟩)]
set_option maxHeartbeats 2000000 in
set_option maxRecDepth 100000 in
theorem top1_any : ∀ (n : Nat) (l : List ByteArray) (A0 : Option Addr) (c0 : Nat) (w : World) (B : Nat), l.length = n → 1 ≤ n → n ≤ 2305843009213693952 → (∀ s ∈ l, s.size ≤ 562949953421311) → Tabs w →
    B < w.heap.size → w.cell? ⟨B, 0, none⟩ = some (ofF B) → Kd.C Kd.string w A0 l.length l → l.length ≤ c0 →
    Calls Tryd.prog 71 #[.slice A0 l.length c0, .pointer (some ⟨B, 0, none⟩)] w fun e w' => e = .returned (.string (TM.topL sumB l)) ∧ Below w.heap.size w w' := by
  intro n
  induction n using Nat.strongRecOn with
  | ind n ih =>
    intro l A0 c0 w B hn h0 hmax hs hT hBl hbox hr hc
    have hB := Below.refl w.heap.size w
    by_cases h1 : n = 1
    · obtain ⟨s, rfl⟩ := List.length_eq_one_iff.1 (show l.length = 1 by omega)
      rw [TM.topL_one]
      have hs' := hs s (by simp)
      obtain ⟨ad, rfl, hcell⟩ := Kd.at_string hr 0 (by omega) (by simp)
      have hcl : w.cell? (ad.add (Int.toNat 0)) = some (.string s) := hcell
      rw [show (0 : Int).toNat = 0 from rfl, Addr.add_zero'] at hcl
      have HL := Lib.hid (leaf_any s hs')
      clear ih hs hT hbox hr hc hmax hcell hs'
      go_enter Tryd.func71, Tryd.ntmps71
      go_wp2_with (go_at_call 40; refine (HL.out _).mono ?_)
      rintro e u ⟨rfl, hb⟩
      go_wp2
      go_ret
      exact ⟨rfl, hb⟩
    · have hp := TM.half_pos n; have hlt := TM.half_lt n (by omega)
      have hlA : (l.take (TM.halfN n)).length = TM.halfN n := by rw [List.length_take]; omega
      have hlB : (l.drop (TM.halfN n)).length = n - TM.halfN n := by rw [List.length_drop, hn]
      rw [TM.topL_two sumB l (by omega), hn]
      have hCA := Kd.C_take (m := TM.halfN n) hr (by omega)
      have hCB := Kd.C_drop (m := TM.halfN n) hr (by omega) hc
      obtain ⟨i0, hi, _, hsz, _⟩ := info_parts infoStr
      have hcutA := cut_to 22 9 .i64 Tryd.underlying22 hi A0 l.length c0 (TM.halfN n : Int) (by omega) (by omega) hc
      have hcutB := cut_from 22 9 .i64 Tryd.underlying22 hi 1 hsz A0 l.length c0 (TM.halfN n : Int) (by omega) (by omega)
      simp only [Int.toNat_natCast] at hcutA hcutB
      have IA := ih (TM.halfN n) hlt (l.take (TM.halfN n)) A0 c0
      have IB := ih (n - TM.halfN n) (by omega) (l.drop (TM.halfN n)) (if c0 = TM.halfN n then A0 else A0.map (·.add (TM.halfN n * 1))) (c0 - TM.halfN n)
      rw [hlA] at IA hCA
      rw [hlB] at IB hCB
      rw [hn] at hcutB
      have szA := top_size (l.take (TM.halfN n)) (fun s h => hs s (List.mem_of_mem_take h))
      have szB := top_size (l.drop (TM.halfN n)) (fun s h => hs s (List.mem_of_mem_drop h))
      have sA : ∀ s ∈ l.take (TM.halfN n), s.size ≤ 562949953421311 := fun s h => hs s (List.mem_of_mem_take h)
      have sB : ∀ s ∈ l.drop (TM.halfN n), s.size ≤ 562949953421311 := fun s h => hs s (List.mem_of_mem_drop h)
      have hH := half_any n hmax
      have HN := Lib.hid (node_any (sumB (TM.topL sumB (l.take (TM.halfN n)))) (sumB (TM.topL sumB (l.drop (TM.halfN n)))) (by rw [sumB_size, sumB_size]; decide))
      have HA := Lib.hid (fun u (hb : Below w.heap.size w u) => IA u B rfl (by omega) (by omega) sA (hT.below hb hT.size) (by have := hb.size; omega) ((hb.cell (p := ⟨B, 0, none⟩) hBl).trans hbox) (Kd.C_below hCA hb) (by omega))
      have HB' := Lib.hid (fun u (hb : Below w.heap.size w u) => IB u B rfl (by omega) (by omega) sB (hT.below hb hT.size) (by have := hb.size; omega) ((hb.cell (p := ⟨B, 0, none⟩) hBl).trans hbox) (Kd.C_below hCB hb) (by omega))
      have HSA := Lib.hid (fun u (hb : Below w.heap.size w u) => sum_any (TM.topL sumB (l.take (TM.halfN n))) szA u (hT.below hb hT.size))
      have HSB := Lib.hid (fun u (hb : Below w.heap.size w u) => sum_any (TM.topL sumB (l.drop (TM.halfN n))) szB u (hT.below hb hT.size))
      have hbx : ∀ u, Below w.heap.size w u → u.cell? ⟨B, 0, none⟩ = some (ofF B) := fun u hb => (hb.cell (p := ⟨B, 0, none⟩) hBl).trans hbox
      have H1 := Lib.hid h1
      clear ih IA IB hCA hCB hr hs sA sB szA szB hT h1
      have hne : ((n : Int) == 1) = false := beq_eq_false_iff_ne.mpr (by have := H1.out; omega)
      subst hn
      generalize TM.topL sumB (l.take (TM.halfN l.length)) = tA at *
      generalize TM.topL sumB (l.drop (TM.halfN l.length)) = tB at *
      clear hlA hlB
      generalize TM.halfN l.length = k at *
      generalize sumB tA = xA at *
      generalize sumB tB = xB at *
      generalize TM.nodeB xA xB = out at *
      generalize (if c0 = k then A0 else Option.map (fun x => x.add (k * 1)) A0) = AB at *
      generalize l.length - k = nB at *
      generalize c0 - k = cB at *
      go_enter Tryd.func71, Tryd.ntmps71
      go_wp2_with (go_at_call 58; refine Pause'.out ?_)
      constructor
      refine (hH _).mono ?_
      rintro e u ⟨rfl, hb⟩
      replace hB := hb
      clear hb hH
      go_wp2
      refine Fam.wp_region_fam [4, 5, 10, 11, 12] (fun m u => Below w.heap.size w u) (by kernel_rfl) (by kernel_rfl) hB.drew ?_
      refine Fam.read_ (ofF B) (by rfl) (by rfl) (fun m' _ u hu => ?_) ?_
      · have hx := hbx u hu
        clear hu; go_simp
      simp only [Act.put, List.setIfInBounds_toArray, List.set_cons_zero, List.set_cons_succ]
      refine Fam.pure_ (by rfl) (by rfl) rfl (fun K hK => ?_)
      go_big_quiet_op
      refine hK _ ?_
      clear hK K
      refine Fam.pure_ (by rfl) (by rfl) rfl (fun K hK => ?_)
      go_big_quiet_op
      refine hK _ ?_
      clear hK K
      refine Fam.any_ (.slice A0 k c0) (by rfl) (by rfl) (fun w => ?_) ?_
      · go_simp
      simp only [Act.put, List.setIfInBounds_toArray, List.set_cons_zero, List.set_cons_succ]
      refine Fam.effCall_ (.string tA) 71 ?_ (by rfl) (by rfl) (fun w => ?_) (fun u hu => ?_) ?_
      rotate_left
      · go_simp; rfl
      · exact (HA.out u hu).mono fun e u' ⟨he, hb⟩ => ⟨he, hu.trans (hb.mono hu.size)⟩
      simp only [Act.put, List.setIfInBounds_toArray, List.set_cons_zero, List.set_cons_succ]
      refine Fam.effCall_ (.string xA) 26 ?_ (by rfl) (by rfl) (fun w => ?_) (fun u hu => ?_) ?_
      rotate_left
      · go_simp; rfl
      · exact (HSA.out u hu).mono fun e u' ⟨he, hb⟩ => ⟨he, hu.trans (hb.mono hu.size)⟩
      simp only [Act.put, List.setIfInBounds_toArray, List.set_cons_zero, List.set_cons_succ]
      refine Fam.read_ (ofF B) (by rfl) (by rfl) (fun m' _ u hu => ?_) ?_
      · have hx := hbx u hu
        clear hu; go_simp
      simp only [Act.put, List.setIfInBounds_toArray, List.set_cons_zero, List.set_cons_succ]
      refine Fam.pure_ (by rfl) (by rfl) rfl (fun K hK => ?_)
      go_big_quiet_op
      refine hK _ ?_
      clear hK K
      refine Fam.pure_ (by rfl) (by rfl) rfl (fun K hK => ?_)
      go_big_quiet_op
      refine hK _ ?_
      clear hK K
      refine Fam.any_ (.slice AB nB cB) (by rfl) (by rfl) (fun w => ?_) ?_
      · go_simp
      simp only [Act.put, List.setIfInBounds_toArray, List.set_cons_zero, List.set_cons_succ]
      refine Fam.effCall_ (.string tB) 71 ?_ (by rfl) (by rfl) (fun w => ?_) (fun u hu => ?_) ?_
      rotate_left
      · go_simp; rfl
      · exact (HB'.out u hu).mono fun e u' ⟨he, hb⟩ => ⟨he, hu.trans (hb.mono hu.size)⟩
      simp only [Act.put, List.setIfInBounds_toArray, List.set_cons_zero, List.set_cons_succ]
      refine Fam.effCall_ (.string xB) 26 ?_ (by rfl) (by rfl) (fun w => ?_) (fun u hu => ?_) ?_
      rotate_left
      · go_simp; rfl
      · exact (HSB.out u hu).mono fun e u' ⟨he, hb⟩ => ⟨he, hu.trans (hb.mono hu.size)⟩
      simp only [Act.put, List.setIfInBounds_toArray, List.set_cons_zero, List.set_cons_succ]
      refine Fam.effCall_ (.string out) 42 ?_ (by rfl) (by rfl) (fun w => ?_) (fun u hu => ?_) ?_
      rotate_left
      · go_simp; rfl
      · exact (HN.out u).mono fun e u' ⟨he, hb⟩ => ⟨he, hu.trans (hb.mono hu.size)⟩
      simp only [Act.put, List.setIfInBounds_toArray, List.set_cons_zero, List.set_cons_succ]
      refine Fam.pure_ (by rfl) (by rfl) rfl (fun K hK => ?_)
      go_big_quiet_op
      refine hK _ ?_
      clear hK K
      refine Fam.nil_ ?_
      intro u hu
      go_wp2
      go_ret
      exact ⟨rfl, hu⟩

def tree_top.f (l : List ByteArray) : Option ByteArray := if (1 ≤ l.length ∧ l.length ≤ 2305843009213693952) ∧ ∀ s ∈ l, s.size ≤ 562949953421311 then some (TM.topL sumB l) else none
set_option maxHeartbeats 1000000 in
set_option maxRecDepth 100000 in
theorem tree_top.calls (A0 : Option Addr) (c0 : Nat) (l0 : List ByteArray) (r : ByteArray) (w : World) (hT : Tabs w) (hr0 : Kd.C Kd.string w A0 l0.length l0) (hc0 : l0.length ≤ c0) (h : tree_top.f l0 = some r) :
    Calls Tryd.prog 59 #[.slice A0 l0.length c0] w fun e w' => e = .returned (.string r) ∧ Below w.heap.size w w' := by
  unfold tree_top.f at h
  by_cases hs : (1 ≤ l0.length ∧ l0.length ≤ 2305843009213693952) ∧ ∀ s ∈ l0, s.size ≤ 562949953421311
  · rw [if_pos hs] at h
    obtain rfl := Option.some.inj h
    have hb2 := (Below.refl w.heap.size w).alloc (Nat.le_refl _) (.cells #[ofF w.heap.size] 65)
    have hcl : (w.alloc (.cells #[ofF w.heap.size] 65)).cell? ⟨w.heap.size, 0, none⟩ = some (ofF w.heap.size) := (RowIs.new w 65 [ofF w.heap.size]).cell (i := 0) rfl
    have HT := Lib.hid (top1_any l0.length l0 A0 c0 _ w.heap.size rfl hs.1.1 hs.1.2 hs.2 (hT.below hb2 hT.size) (by simp) hcl (Kd.C_below hr0 hb2) hc0)
    generalize TM.topL sumB l0 = r at *
    clear hcl hs hr0 hT
    go_enter Tryd.func59, Tryd.ntmps59
    go_wp2_with (go_at_call 71; refine Pause'.out ?_)
    constructor
    refine HT.out.mono ?_
    rintro e u ⟨rfl, hb⟩
    have hb3 := hb2.trans (hb.mono hb2.size)
    clear hb hb2 HT
    go_wp2
    go_ret
    exact ⟨rfl, hb3⟩
  · rw [if_neg hs] at h
    cases h
end Go.Proofs.YtlcmpmodfkmfnaaDoor
