/- slices.Collect of the way's sides, slices.Reverse of them, slices.ContainsFunc of a path's sums that are not as long as a sum. -/
import Derived.Maps.AppendAt
import Derived.Shelf.SlicesQ.Reverse
import Derived.Test.YtlcmpmodfkmfnaaDoorWay
set_option linter.unusedVariables false
set_option linter.unusedSimpArgs false
namespace Go.Proofs.YtlcmpmodfkmfnaaDoor
open Go.RowKit Go.Proofs.YtlcmpmodfkmfnaaDoorW.PrintWords Go.Sort
attribute [local go_sem] Oper.semAt_some

abbrev SideT := Bool × Nat × Nat
def sideE (x : SideT) : List Value := [.bool x.1, .int .i64 (x.2.1 : Int), .int .i64 (x.2.2 : Int)]
theorem infoSide : (Tryd.prog.info? 64).map (fun i => (i.zero, i.size, i.bytes)) = some (some (.agg #[.bool false, .int .i64 0, .int .i64 0]), 3, 24) := by kernel_rfl
def sidesL (N : Nat) (pre : List (Side N)) : List Value := (pre.map (·.1)).flatMap sideE
theorem sidesL_snoc (N : Nat) (pre : List (Side N)) (x : Side N) : sidesL N (pre ++ [x]) = sidesL N pre ++ sideE x.1 := by simp [sidesL]

theorem sideE_len (x : SideT) : (sideE x).length = 3 := rfl
theorem sideE_one (x : SideT) : ∀ v ∈ sideE x, v.oneCell' = true := by
  intro v hv
  simp [sideE] at hv
  rcases hv with rfl | rfl | rfl <;> rfl
theorem flat_len (xs : List SideT) : (xs.flatMap sideE).length = xs.length * 3 := by
  induction xs with
  | nil => rfl
  | cons x xs ih => rw [List.flatMap_cons, List.length_append, ih, sideE_len, List.length_cons]; omega
theorem flat_get (xs : List SideT) : ∀ t, t < xs.length * 3 → (xs.flatMap sideE).getD t default = (sideE (xs.getD (t / 3) default)).getD (t % 3) default := by
  induction xs with
  | nil => intro t h; simp at h
  | cons x xs ih =>
    intro t h
    rw [List.length_cons] at h
    rw [List.flatMap_cons]
    by_cases h3 : t < 3
    · rw [List.getD_eq_getElem?_getD, List.getElem?_append_left (by rw [sideE_len]; exact h3), ← List.getD_eq_getElem?_getD, show t / 3 = 0 by omega, show t % 3 = t by omega]
      rfl
    · rw [List.getD_eq_getElem?_getD, List.getElem?_append_right (by rw [sideE_len]; omega), ← List.getD_eq_getElem?_getD, sideE_len, ih (t - 3) (by omega), show t / 3 = (t - 3) / 3 + 1 by omega, show t % 3 = (t - 3) % 3 by omega, List.getD_cons_succ]
theorem flat_flatK (xs : List SideT) : flatK sideE 3 xs.toArray = (xs.flatMap sideE).toArray := by
  refine ext_get! (by rw [size_flatK, List.size_toArray, List.size_toArray, flat_len]) fun t ht => ?_
  rw [size_flatK] at ht
  rw [get_flatK sideE 3 _ t ht]
  have := flat_get xs t (by simpa using ht)
  simp only [List.getD_eq_getElem?_getD] at this
  simp [List.getElem!_eq_getElem?_getD, ← this]
theorem holds_of_row {w : World} {base : Nat} {e : TypeId} {s n : Nat} {v : Value} {cells : List Value} (h : w.ownsRow base e s v n cells) (hv : v ≠ .slice none 0 0) :
    ∃ g cap, v = .slice (some ⟨g, 0, none⟩) n cap ∧ base ≤ g ∧ n ≤ cap ∧ cap ≤ maxLen ∧ Sort.Holds id w g 0 cells.toArray := by
  have hl := h.1
  rcases h.2 with ⟨e0, _⟩ | ⟨g, cap, cur, rfl, hb, hg, hn, hm, hs, ht⟩
  · exact absurd e0 hv
  · refine ⟨g, cap, rfl, hb, hn, hm, fun j hj => ?_⟩
    have hj' : j < n * s := by simpa [hl] using hj
    refine ⟨?_, by simp [World.frozen?, hg]⟩
    have e1 : (cur.toList.take (n * s))[j]? = cells[j]? := by rw [ht]
    rw [List.getElem?_take, if_pos hj', Array.getElem?_toList, List.getElem?_eq_getElem (by omega)] at e1
    simp only [World.cell?, hg, Nat.zero_add]
    simp only [Option.isSome_none, Bool.false_eq_true, if_false]
    rw [e1]
    simp [getElem!_pos, show j < cells.length by omega]
theorem row_putRow {w : World} {base : Nat} {e : TypeId} {s g n cap q : Nat} {cells ys : List Value} (h : w.ownsRow base e s (.slice (some ⟨g, 0, none⟩) n cap) n cells) (hy : ys.length = n * s) :
    (Sort.putRow id (Sort.ahead w q) g 0 ys.toArray).ownsRow base e s (.slice (some ⟨g, 0, none⟩) n cap) n ys := by
  rcases h.2 with ⟨e0, _⟩ | ⟨g', cap', cur, e0, hb, hg, hn, hm, hs, ht⟩
  · cases e0
  · injection e0 with e1 _ e3
    injection e1 with e1
    injection e1 with e1
    subst e1; subst e3
    have hle : n * s ≤ cap * s := Nat.mul_le_mul_right _ hn
    refine ⟨hy, .inr ⟨g, cap, Sort.putCells id 0 ys.toArray cur, rfl, hb, ?_, hn, hm, by simpa [Sort.putCells] using hs, ?_⟩⟩
    · simp [Sort.putRow, Sort.mapBlock, Sort.ahead, Array.getElem?_modify, hg, Sort.onCells]
    · apply List.ext_getElem?
      intro j
      rw [List.getElem?_take, Array.getElem?_toList]
      by_cases hj : j < n * s
      · have hjc : j < cur.size := by omega
        simp only [if_pos hj, Sort.putCells, Array.getElem?_mapIdx, Array.getElem?_eq_getElem hjc, Option.map_some]
        rw [if_pos (by simp; omega), List.getElem?_eq_getElem (by omega)]
        simp [getElem!_pos, show j < ys.length by omega]
      · rw [if_neg hj, List.getElem?_eq_none (by omega)]
def sidesRen : Go.Shelf.Ren := ⟨fun | 35 => 51 | n => n, fun | 22 => 75 | 23 => 64 | 3 => 3 | 4 => 4 | 0 => 0 | n => n, fun | n => n⟩
theorem sidesLays : SlLaysE0.n35 Tryd.prog sidesRen := {
  mixed := by kernel_rfl
  f35 := ⟨Tryd.f51.name, by kernel_rfl, Tryd.func51.trans (congrArg some (by kernel_rfl))⟩
  t0 := Tryd.underlying0
  a0 := Tryd.isAgg0
  z0 := Tryd.sizeOf0
  v0 := Tryd.zeroValue0
  t3 := Tryd.underlying3
  a3 := Tryd.isAgg3
  z3 := Tryd.sizeOf3
  v3 := Tryd.zeroValue3
  t4 := Tryd.underlying4
  a4 := Tryd.isAgg4
  z4 := Tryd.sizeOf4
  v4 := Tryd.zeroValue4
  t22 := Tryd.underlying75
  a22 := Tryd.isAgg75
  z22 := Tryd.sizeOf75
  v22 := Tryd.zeroValue75 }
theorem revSides_any (base : Nat) (v : Value) (xs : List SideT) (W : World) (h : W.ownsRow base 64 3 v xs.length (xs.flatMap sideE)) (hsz : xs.length ≤ 4096) :
    Calls Tryd.prog 51 #[v] W fun e W' => e = .returned (.tuple #[]) ∧ W'.ownsRow base 64 3 v xs.length (xs.reverse.flatMap sideE) ∧ W.grownBy W' v.ownBlock := by
  by_cases hv : v = .slice none 0 0
  · subst hv
    rcases h.2 with ⟨_, h0⟩ | ⟨g, cap, cur, e, _⟩
    · obtain rfl := List.eq_nil_of_length_eq_zero h0
      refine (AnyQ.slices_Reverse_empty sidesLays none 0 W).mono ?_
      rintro e w' ⟨he, rfl⟩
      exact ⟨he, h, rfl, rfl, rfl, Nat.le_refl _, fun _ _ _ => rfl⟩
    · cases e
  · obtain ⟨g, cap, rfl, hb, hn, hm, hH⟩ := holds_of_row h hv
    have hH' : HoldsK sideE 3 W g 0 xs.toArray := by
      unfold HoldsK
      rw [flat_flatK]
      exact hH
    refine (AnyQ.slices_Reverse sidesLays 3 Tryd.isAgg64 Tryd.sizeOf64 sideE sideE_len sideE_one g 0 cap xs.toArray W hH' (by simp; omega)).mono ?_
    rintro e w' ⟨he, n, rfl⟩
    have e1 : putRowK sideE 3 (Sort.ahead W n) g 0 xs.toArray.reverse = Sort.putRow id (Sort.ahead W n) g 0 (xs.reverse.flatMap sideE).toArray := by
      unfold putRowK
      rw [← flat_flatK]
      simp
    rw [e1]
    refine ⟨he, row_putRow h (by rw [flat_len, List.length_reverse]), rfl, rfl, rfl, by simp [Sort.putRow, Sort.mapBlock, Sort.ahead], fun k hk hne => ?_⟩
    have hgk : g ≠ k := fun e => hne (by simp [Value.ownBlock, e])
    simp [Sort.putRow, Sort.mapBlock, Sort.ahead, Array.getElem?_modify, hgk]

theorem cells_new (w : World) (cs : List Value) (t : TypeId) : ∀ j u, cs[j]? = some u → (w.alloc (.cells cs.toArray t)).cell? ((⟨w.heap.size, 0, none⟩ : Addr).add j) = some u := fun j u hj => by
  have := (RowIs.new w t cs).cell (i := j) hj
  rw [Addr.add_lit, Nat.zero_add]
  exact this
abbrev appFrame (cl : Value) (b : Nat) (t5 t7 : Value) : Act :=
  { tmps := #[.slice none 0 0, cl, .pointer (some ⟨b, 0, none⟩), undef, .slice none 0 0, t5, cl, t7, undef, undef, undef, undef, undef], defers := [] }

set_option maxHeartbeats 4000000 in
set_option maxRecDepth 100000 in
theorem appendSeq_in (N : Nat) (hN : N ≤ 4096) (i : Nat) (hi : i < N) (Bn Bi : Nat) (w : World) (hBn : Bn < w.heap.size) (bI : Boxed w Bi 3 (.int .i64 (i : Int))) (hcn : w.cell? ⟨Bn, 0, none⟩ = some (.int .i64 (N : Int))) :
    CallsIn Fence.wide 7 Tryd.prog 66 #[.slice none 0 0, .func (.func 57) #[] #[.pointer (some ⟨Bn, 0, none⟩), .pointer (some ⟨Bi, 0, none⟩)]] w fun e w' =>
      ∃ v, e = .returned v ∧ w'.ownsRow w.heap.size 64 3 v (TM.wayL 0 N i).length ((TM.wayL 0 N i).flatMap sideE) ∧ Below w.heap.size w w' := by
  refine callsIn_of_wp_marks Tryd.func66 rfl trivial ?_ rfl
  simp only [Tryd.ntmps66, List.size_toArray, List.length_cons, List.length_nil, Nat.reduceAdd, Nat.reduceSub, Array.replicate_succ, Array.replicate_zero, List.push_toArray, List.append_toArray, List.nil_append, List.cons_append]
  have HC := Lib.hid hcn; have HBI := Lib.hid bI
  clear hcn bI
  gi_wp2
  have bS := Boxed.new w 75 (.slice none 0 0)
  have bI := HBI.out.alloc (.cells #[.slice none 0 0] 75)
  have hB0 : Below w.heap.size w (w.alloc (.cells #[.slice none 0 0] 75)) := (Below.refl _ w).alloc (Nat.le_refl _) _
  have hsz : (w.alloc (.cells #[.slice none 0 0] 75)).heap.size = w.heap.size + 1 := by simp
  have hcn := (hB0.cell (p := ⟨Bn, 0, none⟩) hBn).trans HC.out
  have hBi := HBI.out.lt
  obtain ⟨W0, hW0⟩ : ∃ W0, w.alloc (.cells #[.slice none 0 0] 75) = W0 := ⟨_, rfl⟩
  rw [hW0] at bS bI hB0 hsz hcn ⊢
  clear hW0
  have h12 := TM.way_le 12 N 0 i hN
  refine wpIn_rangeFunc_ownH rfl (by omega) (gf := 57) (lb := #[.pointer (some ⟨Bn, 0, none⟩), .pointer (some ⟨Bi, 0, none⟩)]) rfl trivial (enters_of Tryd.func57 (by kernel_rfl) rfl)
    (way_stops Fence.wide 6 trivial trivial rfl (by omega) N (by omega) i hi Bn Bi w.heap.size W0 (by omega) (by omega) (by omega) hcn bI.cell) kpW_t (kpW_b (by omega) (by omega)) (Below.refl _ _) (fun _ => rfl)
    (fun pre W => ((∃ v, Boxed W w.heap.size 75 v ∧ W.ownsRow w.heap.size 64 3 v pre.length (sidesL N pre) ∧ True) ∧ Boxed W Bi 3 (.int .i64 (i : Int))) ∧ Below w.heap.size w W)
    (fun _ _ _ => False)
    ?_ (fun _ _ _ _ _ h _ _ => h) ⟨⟨⟨_, bS, World.ownsRow_nil _ _ _ _, trivial⟩, bI⟩, hB0⟩
    (fun x a' W => ∃ Bx, w.heap.size + 1 ≤ Bx ∧ W.heap[Bx]? = some (.cells #[.bool x.1.1, .int .i64 (x.1.2.1 : Int), .int .i64 (x.1.2.2 : Int)] 64 (0, 0)) ∧ a' = appFrame (.func (.func 57) #[] #[.pointer (some ⟨Bn, 0, none⟩), .pointer (some ⟨Bi, 0, none⟩)]) w.heap.size (.pointer (some ⟨Bx, 0, none⟩)) (.agg #[.bool x.1.1, .int .i64 (x.1.2.1 : Int), .int .i64 (x.1.2.2 : Int)]))
    ?_ ?assign ?body ?done ?stop
  · exact OwnFrom.and (OwnFrom.and (Own.from (holdsRow_own _ _ _ _ 3 (fun pre => pre.length) (fun pre => sidesL N pre) (fun _ _ => True)) _) (Own.from (boxed_own _ _ _) _)) (ownFrom_below (Nat.le_refl _) (by omega))
  · rintro x a' s X Y row ⟨Bx, h1, h2, h3⟩ hg hrow
    refine ⟨Bx, h1, (hg.block Bx (Array.getElem?_eq_some_iff.1 h2).1 (fun e => ?_)).trans h2, h3⟩
    obtain ⟨_, o, ho, hc⟩ := hrow Bx e.symm
    rw [h2] at ho
    cases ho
    cases hc
  case assign =>
    rintro l' pre x W K ⟨⟨⟨v, h1, h2, h3⟩, h5⟩, h6⟩ hK
    have HK := Lib.hid hK; have H1 := Lib.hid h1; have H2 := Lib.hid h2; have H5 := Lib.hid h5; have H6 := Lib.hid h6
    clear hK h1 h2 h3 h5 h6
    have hz := H6.out.size
    unfold encS sideV
    gi_wp2
    have bI' := H5.out.alloc (.cells #[.bool x.1.1, .int .i64 (x.1.2.1 : Int), .int .i64 (x.1.2.2 : Int)] 64)
    exact HK.out _ _ ((KeepsOthers.alloc _ _).from _) ⟨(Below.refl _ W).alloc hz _, bI'.trans H5.out.symm⟩ ⟨⟨⟨v, H1.out.alloc _, H2.out.alloc _, trivial⟩, bI'⟩, H6.out.alloc hz _⟩ ⟨W.heap.size, by have := H1.out.lt; omega, World.alloc_heap_new W _, rfl⟩
  case body =>
    rintro l' pre x a' W hl ⟨r, hlr⟩ ⟨⟨⟨v, h1, h2, h3⟩, h5⟩, h6⟩ ⟨Bx, hBx, hX, rfl⟩ hlt
    obtain ⟨⟨bb, lo, hi'⟩, hx1, hx2⟩ := x
    dsimp only at hx1 hx2 hX ⊢
    obtain ⟨i0, hi0, hz0, hsz0, hby0⟩ := info_parts infoSide
    have hcb := h1.cell
    have hc0 : W.cell? ⟨Bx, 0, none⟩ = some (.bool bb) := by simp [World.cell?, hX]
    have hc1 : W.cell? ⟨Bx, 1, none⟩ = some (.int .i64 (lo : Int)) := by simp [World.cell?, hX]
    have hc2 : W.cell? ⟨Bx, 2, none⟩ = some (.int .i64 (hi' : Int)) := by simp [World.cell?, hX]
    have HA := Lib.hid (And.intro h1 (And.intro h2 (And.intro h5 (And.intro h6 hX))))
    have hzu := h6.size
    clear h1 h2 h3 h5 h6 hX bS bI hB0 hcn HBI HC hlr
    gi_wp2_with (gi_at_builtin; refine wpListIn_append_own _ rfl _ _ 75 rfl w.heap.size 64 i0 (.agg #[.bool false, .int .i64 0, .int .i64 0]) 3 24 Tryd.underlying75 hi0 hz0 hsz0 hby0 rfl (by decide) _ _ _ rfl (HA.out.2.1.alloc _) ⟨W.heap.size, 0, none⟩ 1 1 [.bool bb, .int .i64 (lo : Int), .int .i64 (hi' : Int)] rfl rfl (cells_new _ _ _) (by simp [Value.oneCell']) (by unfold maxLen; omega) (by omega) (by simp; omega) ?_; intro v' w1 hown' hgrow _; obtain ⟨g', cap', rfl⟩ := ownsRow_succ hown'; obtain ⟨a1, a2, a3, a4, a5⟩ := HA.out.1.appended (by decide) HA.out.2.1 HA.out.2.2.2.1.size (Nat.le_refl _) hown' hgrow; have hcb1 := a1.cell; have hfb1 := a1.frozen; have HE := Lib.hid (And.intro a2 (And.intro a3 (And.intro a4 (And.intro a5 hgrow)))); clear a1 a2 a3 a4 a5 hown' hgrow)
    obtain ⟨a2, a3, a4, a5, hgrow⟩ := HE.out
    obtain ⟨b1, b2, b3, b4, b5⟩ := HA.out
    have b3' := (b3.alloc (.cells #[.bool bb, .int .i64 (lo : Int), .int .i64 (hi' : Int)] 64)).kept hgrow (b3.not_row (by decide) b2)
    have hne : Bi ≠ w.heap.size := by omega
    refine ⟨a4.from _, ⟨a5, (b3'.other hne _).trans b3.symm⟩, ⟨⟨⟨_, a2, ?_, trivial⟩, b3'.other hne _⟩, b4.trans a5⟩⟩
    rw [sidesL_snoc, List.length_append]
    exact a3
  case done =>
    rintro D ys W3 hD hS ⟨⟨⟨v, h1, h2, _⟩, h5⟩, h6⟩ hK
    have hcb := h1.cell
    have hl := congrArg List.length hS
    rw [List.length_map] at hl
    have HA := Lib.hid (And.intro h2 (And.intro h6 (And.intro hK (And.intro hS hl))))
    clear h1 h2 h5 h6 hK hS hl bS bI hB0 hcn HBI HC
    gi_wp2
    obtain ⟨h2, h6, hK, hS, hl⟩ := HA.out
    refine ⟨by simp, .inl ⟨_, _, rfl, run_takeDeferred hK, ?_⟩⟩
    refine ⟨_, results_tmp rfl _ _ _, v, rfl, ?_, h6.trans (belowK_b (w := w) (Nat.le_refl _) W3 D _ _ (by omega) hK rfl rfl)⟩
    unfold sidesL at h2
    rw [hS, hl] at h2
    exact ownsRow_putObj h2 _ hK rfl
  case stop =>
    rintro D c pre W3 _ _ h _
    exact h.elim

set_option maxHeartbeats 1000000 in
set_option maxRecDepth 100000 in
theorem collect_any (N : Nat) (hN : N ≤ 4096) (i : Nat) (hi : i < N) (Bn Bi : Nat) (w : World) (hBn : Bn < w.heap.size) (bI : Boxed w Bi 3 (.int .i64 (i : Int))) (hcn : w.cell? ⟨Bn, 0, none⟩ = some (.int .i64 (N : Int))) :
    Calls Tryd.prog 48 #[.func (.func 57) #[] #[.pointer (some ⟨Bn, 0, none⟩), .pointer (some ⟨Bi, 0, none⟩)]] w fun e w' =>
      ∃ v, e = .returned v ∧ w'.ownsRow w.heap.size 64 3 v (TM.wayL 0 N i).length ((TM.wayL 0 N i).flatMap sideE) ∧ Below w.heap.size w w' := by
  have HA := Lib.hid (callsIn_wide.1 (appendSeq_in N hN i hi Bn Bi w hBn bI hcn))
  clear hBn bI hcn
  go_enter Tryd.func48, Tryd.ntmps48
  go_wp2_with (go_at_call 66; refine Pause'.out ?_)
  constructor
  refine HA.out.mono ?_
  rintro e u ⟨v, rfl, h1, h2⟩
  have HB := Lib.hid (And.intro h1 h2)
  clear h1 h2
  go_wp2
  go_ret
  exact ⟨v, rfl, HB.out.1, HB.out.2⟩

/-! ### slices.ContainsFunc of the sums -/
set_option maxHeartbeats 1000000 in
set_option maxRecDepth 100000 in
theorem short_any (p : ByteArray) (b : Bool) (hb : b = decide (p.size ≠ 32)) (w : World) :
    Calls Tryd.prog 49 #[.string p] w fun e w' => e = .returned (.bool b) ∧ Below w.heap.size w w' := by
  have hB := Below.refl w.heap.size w
  cases b with
  | true =>
    have h : p.size ≠ 32 := of_decide_eq_true hb.symm
    have h1 : ((p.size : Int) != 32) = true := bne_iff_ne.mpr (by omega)
    have h2 : ((p.size : Int) == 32) = false := beq_eq_false_iff_ne.mpr (by omega)
    clear h hb
    go_enter Tryd.func49, Tryd.ntmps49
    go_wp2
    go_ret
    exact ⟨rfl, hB⟩
  | false =>
    have h : p.size = 32 := by simpa using hb.symm
    have h1 : ((p.size : Int) != 32) = false := by rw [h]; rfl
    clear hb
    have HH := Lib.hid h
    clear h
    go_enter Tryd.func49, Tryd.ntmps49
    go_wp2
    go_ret
    exact ⟨rfl, hB⟩
set_option maxHeartbeats 2000000 in
set_option maxRecDepth 100000 in
theorem index_any (A0 : Option Addr) (c0 : Nat) (l : List ByteArray) (r : Int) (w : World) (hr : Kd.C Kd.string w A0 l.length l) (hl : l.length ≤ 4096)
    (h1 : ∀ k, k < l.length → (∀ j, j < k → (l.getD j ByteArray.empty).size = 32) → (l.getD k ByteArray.empty).size ≠ 32 → r = k) (h2 : (∀ j, j < l.length → (l.getD j ByteArray.empty).size = 32) → r = -1) :
    Calls Tryd.prog 67 #[.slice A0 l.length c0, .func (.func 49) #[] #[]] w fun e w' => e = .returned (.int .i64 r) ∧ Below w.heap.size w w' := by
  have hB := Below.refl w.heap.size w
  have H1 := Lib.hid h1; have H2 := Lib.hid h2; have HR := Lib.hid hr
  clear h1 h2 hr
  go_enter Tryd.func67, Tryd.ntmps67
  go_wp2
  go_loopw [8] (fun x u => ∃ k : Nat, k ≤ l.length ∧ x = .int .i64 (k : Int) ∧ Hid (∀ j, j < k → (l.getD j ByteArray.empty).size = 32) ∧ Below w.heap.size w u) (fun x _ => l.length + 1 - (intOf x).toNat)
  case atStart => exact ⟨0, by omega, rfl, Lib.hid (fun j h => by omega), hB⟩
  case round =>
    clear hB
    obtain ⟨k, hk, rfl, HP, hB⟩ := hrel
    by_cases hc : k < l.length
    · obtain ⟨ad, rfl, hcell⟩ := Kd.at_string (Kd.C_below HR.out hB) k (by omega) (by omega)
      have hcl : wr.cell? (ad.add k) = some (.string (l.getD k ByteArray.empty)) := hcell
      have hlt : decide ((k : Int) < (l.length : Int)) = true := by simp; omega
      have hlt2 : decide (k < l.length) = true := by simp; omega
      by_cases hs : (l.getD k ByteArray.empty).size = 32
      · have HS := Lib.hid (fun u => short_any (l.getD k ByteArray.empty) false (by rw [hs]; rfl) u)
        have HX := Lib.hid (show ∀ j, j < k + 1 → (l.getD j ByteArray.empty).size = 32 from fun j hj => by
          by_cases e : j = k
          · rw [e]; exact hs
          · exact HP.out j (by omega))
        generalize l.getD k ByteArray.empty = p at *
        clear hcell HR hs
        go_wp2_with (go_at_call 49; refine Pause'.out ?_)
        constructor
        refine (HS.out _).mono ?_
        rintro e u ⟨rfl, hb⟩
        have hB2 := hB.trans (hb.mono hB.size)
        clear hb
        go_wp2
        go_roundw
        case rel => exact ⟨k + 1, by omega, by go_num, HX, hB2⟩
        case measure => simp [intOf]; omega
      · have HS := Lib.hid (fun u => short_any (l.getD k ByteArray.empty) true (by simpa using hs) u)
        have hrk := Lib.hid (H1.out k hc HP.out hs)
        generalize l.getD k ByteArray.empty = p at *
        clear hcell HR hs
        go_wp2_with (go_at_call 49; refine Pause'.out ?_)
        constructor
        refine (HS.out _).mono ?_
        rintro e u ⟨rfl, hb⟩
        have hB2 := hB.trans (hb.mono hB.size)
        clear hb
        go_wp2
        go_ret
        exact ⟨by rw [hrk.out]; rfl, hB2⟩
    · have hrk := Lib.hid (H2.out (fun j hj => HP.out j (by omega)))
      have hlt : decide ((k : Int) < (l.length : Int)) = false := by simp; omega
      have hlt2 : decide (k < l.length) = false := by simp; omega
      clear HR
      go_wp2
      go_ret
      exact ⟨by rw [hrk.out]; rfl, hB⟩
theorem least {p : Nat → Prop} (h : ∃ n, p n) : ∃ n, p n ∧ ∀ m, m < n → ¬ p m := by
  obtain ⟨n, hn⟩ := h
  induction n using Nat.strongRecOn with
  | ind n ih =>
    by_cases hm : ∃ m, m < n ∧ p m
    · obtain ⟨m, h1, h2⟩ := hm
      exact ih m h1 h2
    · exact ⟨n, hn, fun m h1 h2 => hm ⟨m, h1, h2⟩⟩
/-- May a path's sums be? -/
theorem contains_any (A0 : Option Addr) (c0 : Nat) (l : List ByteArray) (b : Bool) (w : World) (hr : Kd.C Kd.string w A0 l.length l) (hl : l.length ≤ 4096) (hb : b = l.any fun p => decide (p.size ≠ 32)) :
    Calls Tryd.prog 50 #[.slice A0 l.length c0, .func (.func 49) #[] #[]] w fun e w' => e = .returned (.bool b) ∧ Below w.heap.size w w' := by
  cases b with
  | false =>
    have h : ∀ p ∈ l, p.size = 32 := fun p hp => by
      have := List.any_eq_false.1 hb.symm p hp
      simpa using this
    have HI := Lib.hid (index_any A0 c0 l (-1) w hr hl (fun k hk _ h2 => absurd (h _ (by rw [List.getD_eq_getElem?_getD, List.getElem?_eq_getElem hk]; simp)) h2) (fun _ => rfl))
    clear hr hb h
    go_enter Tryd.func50, Tryd.ntmps50
    go_wp2_with (go_at_call 67; refine Pause'.out ?_)
    constructor
    refine HI.out.mono ?_
    rintro e u ⟨rfl, hB⟩
    go_wp2
    go_ret
    exact ⟨rfl, hB⟩
  | true =>
    obtain ⟨r, h0, h1, h2⟩ : ∃ r : Nat, r < l.length ∧ (∀ j, j < r → (l.getD j ByteArray.empty).size = 32) ∧ (l.getD r ByteArray.empty).size ≠ 32 := by
      clear hr hl
      obtain ⟨p, hp, hs⟩ := List.any_eq_true.1 hb.symm
      obtain ⟨i, hi, he⟩ := List.getElem_of_mem hp
      have hx : ∃ i, i < l.length ∧ (l.getD i ByteArray.empty).size ≠ 32 := ⟨i, hi, by rw [List.getD_eq_getElem?_getD, List.getElem?_eq_getElem hi]; simpa [he] using hs⟩
      obtain ⟨r, hr1, hr2⟩ := least hx
      exact ⟨r, hr1.1, fun j hj => Decidable.byContradiction fun hn => hr2 j hj ⟨Nat.lt_trans hj hr1.1, hn⟩, hr1.2⟩
    have HI := Lib.hid (index_any A0 c0 l (r : Int) w hr hl (fun k hk h3 h4 => by
      rcases Nat.lt_trichotomy k r with h | h | h
      · exact absurd (h1 k h) h4
      · rw [h]
      · exact absurd (h3 r h) h2) (fun h => absurd (h r h0) h2))
    clear hr hb h0 h1 h2
    go_enter Tryd.func50, Tryd.ntmps50
    go_wp2_with (go_at_call 67; refine Pause'.out ?_)
    constructor
    refine HI.out.mono ?_
    rintro e u ⟨rfl, hB⟩
    go_wp2
    go_ret
    exact ⟨rfl, hB⟩
end Go.Proofs.YtlcmpmodfkmfnaaDoor
