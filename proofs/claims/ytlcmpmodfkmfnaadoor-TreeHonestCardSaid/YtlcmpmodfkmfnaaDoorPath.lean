/- tree.Path: the proof of a place; in the form that the print takes. -/
import Derived.Maps.AppendAt
import Derived.Lib.OwnBridge
import Derived.Test.YtlcmpmodfkmfnaaDoorHeld
import Derived.Test.YtlcmpmodfkmfnaaDoorWay
import Derived.Test.YtlcmpmodfkmfnaaDoorShelf
set_option linter.unusedVariables false
set_option linter.unusedSimpArgs false
namespace Go.Proofs.YtlcmpmodfkmfnaaDoor
open Go.RowKit Go.Proofs.YtlcmpmodfkmfnaaDoorW.PrintWords
attribute [local go_sem] Oper.semAt_some

/-- What has come of the proof when these sides have. -/
def outsL (l : List ByteArray) (N : Nat) (pre : List (Side N)) : List ByteArray := pre.map fun s => TM.crownL sumB (TM.part l s.1.2.1 s.1.2.2)
theorem outsL_snoc (l : List ByteArray) (N : Nat) (pre : List (Side N)) (x : Side N) : outsL l N (pre ++ [x]) = outsL l N pre ++ [TM.crownL sumB (TM.part l x.1.2.1 x.1.2.2)] := by simp [outsL]
abbrev pathFrame (A0 : Option Addr) (n c0 : Nat) (i : Int) (b Bx : Nat) (x : Bool × Nat × Nat) : Act :=
  { tmps := #[.slice A0 n c0, .int .i64 i, .pointer (some ⟨b, 0, none⟩), undef, .slice none 0 0, .int .i64 0, .pointer (some ⟨b + 1, 0, none⟩), .pointer (some ⟨Bx, 0, none⟩), .bool false, .slice A0 n c0, .int .i64 (n : Int), .bool false, .bool false, .int .i64 i, .bool false, .bool false,
      .int .i64 i, .slice A0 n c0, .int .i64 (n : Int), .bool false, .bool false, .slice A0 n c0, .int .i64 (n : Int), .int .i64 i, .func (.func 57) #[] #[.pointer (some ⟨b + 1 + 1, 0, none⟩), .pointer (some ⟨b + 1 + 1 + 1, 0, none⟩)],
      .agg #[.bool x.1, .int .i64 (x.2.1 : Int), .int .i64 (x.2.2 : Int)], undef, undef, undef, undef, undef, undef, undef, undef, undef, undef, undef, undef, undef], defers := [] }
theorem strs_snoc (a : List ByteArray) (b : ByteArray) : (a ++ [b]).map Value.string = a.map Value.string ++ [.string b] := by simp

theorem rev_any (base : Nat) (v : Value) (xs : List ByteArray) (W : World) (h : W.ownsRow base 9 1 v xs.length (xs.map .string)) (hsz : xs.length ≤ 4096) :
    Calls Tryd.prog 35 #[v] W fun e W' => e = .returned (.tuple #[]) ∧ W'.ownsRow base 9 1 v xs.length (xs.reverse.map .string) ∧ W.grownBy W' v.ownBlock := by
  by_cases hv : v = .slice none 0 0
  · subst hv
    rcases h.2 with ⟨_, h0⟩ | ⟨g, cap, cur, e, _⟩
    · obtain rfl := List.eq_nil_of_length_eq_zero h0
      refine (Tryd.slices_Reverse_string_empty none 0 W).mono ?_
      rintro e w' ⟨he, rfl⟩
      exact ⟨he, h, rfl, rfl, rfl, Nat.le_refl _, fun _ _ _ => rfl⟩
    · cases e
  · have h' : W.ownsRow base 9 1 v xs.length ((xs.map (·.data.toList)).map Proofs.encStr) := by rw [Lib.map_encStr]; exact h
    obtain ⟨g, cap, rfl, hb, hl, hn, hm, hlen, hH⟩ := Lib.holds_of_ownsRow h' hv
    have hc := Tryd.slices_Reverse_string g 0 cap (xs.map (·.data.toList)) W hH (by rw [List.length_map]; omega)
    rw [List.length_map] at hc
    refine hc.mono ?_
    rintro e w' ⟨he, n, rfl⟩
    refine ⟨he, ?_, ?_⟩
    · have := Lib.ownsRow_putRow (q := n) (k := xs.length) (ys := (xs.map (·.data.toList)).reverse) h' (by simp) (Nat.le_refl _)
      rw [List.take_of_length_le (by simp), ← List.map_reverse, Lib.map_encStr] at this
      rw [← List.map_reverse]
      exact this
    · refine ⟨rfl, rfl, rfl, by simp [Sort.putRow, Sort.mapBlock, Sort.ahead], fun k hk hne => ?_⟩
      have hgk : g ≠ k := fun e => hne (by simp [Value.ownBlock, e])
      simp [Sort.putRow, Sort.mapBlock, Sort.ahead, Array.getElem?_modify, hgk]

set_option maxHeartbeats 4000000 in
set_option maxRecDepth 100000 in
theorem path_any (A0 : Option Addr) (c0 : Nat) (l : List ByteArray) (i : Nat) (w : World) (hT : Tabs w) (hm : l.length ≤ 4096) (hi : i < l.length) (hs : ∀ s ∈ l, s.size ≤ 562949953421311) (hr : Kd.C Kd.string w A0 l.length l) (hc : l.length ≤ c0) :
    Calls Tryd.prog 14 #[.slice A0 l.length c0, .int .i64 (i : Int)] w fun e w' => ∃ v, e = .returned (.tuple #[v, .int .i64 0]) ∧ w'.ownsRow w.heap.size 9 1 v (TM.pathL sumB l i).length ((TM.pathL sumB l i).map .string) ∧ Below w.heap.size w w' := by
  refine (callsIn_wide (n := 8)).1 ?_
  refine callsIn_of_wp_marks Tryd.func14 rfl trivial ?_ rfl
  simp only [Tryd.ntmps14, List.size_toArray, List.length_cons, List.length_nil, Nat.reduceAdd, Nat.reduceSub, Array.replicate_succ, Array.replicate_zero, List.push_toArray, List.append_toArray, List.nil_append, List.cons_append]
  have hd1 : decide ((4096 : Int) < (l.length : Int)) = false := by simp; omega
  have hd2 : decide (4096 < l.length) = false := by simp; omega
  have hd3 : decide ((i : Int) < 0) = false := by simp
  have hd4 : decide ((l.length : Int) ≤ (i : Int)) = false := by simp; omega
  have hd5 : decide (l.length ≤ i) = false := by simp; omega
  have HT := Lib.hid hT; have HS := Lib.hid hs; have HR := Lib.hid hr
  clear hT hs hr
  gi_wp2_with (refine ⟨trivial, ?_⟩; gi_at_call 33; refine (way_in Fence.wide _ trivial rfl _ _ _).mono ?_; rintro e w' ⟨rfl, rfl⟩)
  have bL := (((Boxed.new w 22 (.slice A0 l.length c0)).alloc (.cells #[.slice none 0 0] 22)).alloc (.cells #[.int .i64 (l.length : Int)] 3)).alloc (.cells #[.int .i64 (i : Int)] 3)
  have bO := ((Boxed.new (w.alloc (.cells #[.slice A0 l.length c0] 22)) 22 (.slice none 0 0)).alloc (.cells #[.int .i64 (l.length : Int)] 3)).alloc (.cells #[.int .i64 (i : Int)] 3)
  have bN := (Boxed.new ((w.alloc (.cells #[.slice A0 l.length c0] 22)).alloc (.cells #[.slice none 0 0] 22)) 3 (.int .i64 (l.length : Int))).alloc (.cells #[.int .i64 (i : Int)] 3)
  have bI := Boxed.new (((w.alloc (.cells #[.slice A0 l.length c0] 22)).alloc (.cells #[.slice none 0 0] 22)).alloc (.cells #[.int .i64 (l.length : Int)] 3)) 3 (.int .i64 (i : Int))
  simp only [World.size_alloc] at bO bN bI
  have hB0 : Below w.heap.size w ((((w.alloc (.cells #[.slice A0 l.length c0] 22)).alloc (.cells #[.slice none 0 0] 22)).alloc (.cells #[.int .i64 (l.length : Int)] 3)).alloc (.cells #[.int .i64 (i : Int)] 3)) := ((((Below.refl _ w).alloc (Nat.le_refl _) _).alloc (by simp) _).alloc (by simp; omega) _).alloc (by simp; omega) _
  have hsz : ((((w.alloc (.cells #[.slice A0 l.length c0] 22)).alloc (.cells #[.slice none 0 0] 22)).alloc (.cells #[.int .i64 (l.length : Int)] 3)).alloc (.cells #[.int .i64 (i : Int)] 3)).heap.size = w.heap.size + 4 := by simp
  obtain ⟨W0, hW0⟩ : ∃ W0, (((w.alloc (.cells #[.slice A0 l.length c0] 22)).alloc (.cells #[.slice none 0 0] 22)).alloc (.cells #[.int .i64 (l.length : Int)] 3)).alloc (.cells #[.int .i64 (i : Int)] 3) = W0 := ⟨_, rfl⟩
  rw [hW0] at bL bO bN bI hB0 hsz ⊢
  clear hW0
  refine wpIn_rangeFunc_ownH rfl (by omega) (gf := 57) (lb := #[.pointer (some ⟨w.heap.size + 1 + 1, 0, none⟩), .pointer (some ⟨w.heap.size + 1 + 1 + 1, 0, none⟩)]) rfl trivial (enters_of Tryd.func57 (by kernel_rfl) rfl)
    (way_stops Fence.wide 7 trivial trivial rfl (by omega) l.length (by omega) i hi (w.heap.size + 1 + 1) (w.heap.size + 1 + 1 + 1) w.heap.size W0 (by omega) (by omega) (by omega) bN.cell bI.cell) kpW_t (kpW_b (by omega) (by omega)) (Below.refl _ _) (fun _ => rfl)
    (fun pre W => (((∃ v, Boxed W (w.heap.size + 1) 22 v ∧ W.ownsRow w.heap.size 9 1 v (outsL l l.length pre).length ((outsL l l.length pre).map .string) ∧ True) ∧ Boxed W w.heap.size 22 (.slice A0 l.length c0)) ∧ Boxed W (w.heap.size + 1 + 1 + 1) 3 (.int .i64 (i : Int))) ∧ Below w.heap.size w W)
    (fun _ _ _ => False)
    ?_ (fun _ _ _ _ _ h _ _ => h) ⟨⟨⟨⟨_, bO, World.ownsRow_nil _ _ _ _, trivial⟩, bL⟩, bI⟩, hB0⟩
    (fun x a' W => ∃ Bx, w.heap.size + 4 ≤ Bx ∧ W.heap[Bx]? = some (.cells #[.bool x.1.1, .int .i64 (x.1.2.1 : Int), .int .i64 (x.1.2.2 : Int)] 64 (0, 0)) ∧ a' = pathFrame A0 l.length c0 i w.heap.size Bx x.1)
    ?_ ?assign ?body ?done ?stop
  · exact OwnFrom.and (OwnFrom.and (OwnFrom.and (Own.from (holdsRow_own _ _ _ _ 1 (fun pre => (outsL l l.length pre).length) (fun pre => (outsL l l.length pre).map .string) (fun _ _ => True)) _) (Own.from (boxed_own _ _ _) _)) (Own.from (boxed_own _ _ _) _)) (ownFrom_below (Nat.le_refl _) (by omega))
  · rintro x a' s X Y row ⟨Bx, h1, h2, h3⟩ hg hrow
    refine ⟨Bx, h1, (hg.block Bx (Array.getElem?_eq_some_iff.1 h2).1 (fun e => ?_)).trans h2, h3⟩
    obtain ⟨_, o, ho, hc⟩ := hrow Bx e.symm
    rw [h2] at ho
    cases ho
    cases hc
  case assign =>
    rintro l' pre x W K ⟨⟨⟨⟨v, h1, h2, h3⟩, h4⟩, h5⟩, h6⟩ hK
    have HK := Lib.hid hK; have H1 := Lib.hid h1; have H2 := Lib.hid h2; have H4 := Lib.hid h4; have H5 := Lib.hid h5; have H6 := Lib.hid h6
    clear hK h1 h2 h3 h4 h5 h6
    have hz := H6.out.size
    unfold encS sideV
    gi_wp2
    have bI' := H5.out.alloc (.cells #[.bool x.1.1, .int .i64 (x.1.2.1 : Int), .int .i64 (x.1.2.2 : Int)] 64)
    exact HK.out _ _ ((KeepsOthers.alloc _ _).from _) ⟨(Below.refl _ W).alloc hz _, bI'.trans H5.out.symm⟩ ⟨⟨⟨⟨v, H1.out.alloc _, H2.out.alloc _, trivial⟩, H4.out.alloc _⟩, bI'⟩, H6.out.alloc hz _⟩ ⟨W.heap.size, by have := H5.out.lt; omega, World.alloc_heap_new W _, rfl⟩
  case body =>
    rintro l' pre x a' W hl ⟨r, hlr⟩ ⟨⟨⟨⟨v, h1, h2, h3⟩, h4⟩, h5⟩, h6⟩ ⟨Bx, hBx, hX, rfl⟩ hlt
    obtain ⟨⟨bb, lo, hi'⟩, hx1, hx2⟩ := x
    dsimp only at hx1 hx2 hX ⊢
    obtain ⟨A', hA'⟩ : ∃ A', A' = (if c0 = lo then A0 else A0.map (·.add (lo * Kd.string.sz))) := ⟨_, rfl⟩
    obtain ⟨i0, hi0, hz0, hsz0, hby0⟩ := info_parts infoStr
    have hcut := cut_mid 22 9 .i64 .i64 Tryd.underlying22 hi0 1 hsz0 A0 l.length c0 (lo : Int) (hi' : Int) (by omega) (by omega) (by omega) hc
    simp only [Int.toNat_natCast] at hcut
    have hpl : (TM.part l lo hi').length = hi' - lo := TM.part_length l lo hi' hx2 (by omega)
    have HC := Lib.hid (fun u (hb : Below w.heap.size w u) => crown_any A' (c0 - lo) (TM.part l lo hi') u (HT.out.below hb HT.out.size) (by rw [hpl]; omega) (fun s h => HS.out s (List.mem_of_mem_drop (List.mem_of_mem_take h))) (by
      have := Kd.C_mid (lo := lo) (hi := hi') (Kd.C_below HR.out hb) (by omega) (by omega) hc
      rw [List.drop_take] at this
      rw [hA']
      exact this) (by rw [hpl]; omega))
    rw [hpl] at HC
    rw [show (if c0 = lo then A0 else A0.map (·.add (lo * 1))) = A' from hA'.symm] at hcut
    have mixed : Tryd.prog.follows .mixedOrders = true := by kernel_rfl
    have hD0 : Boxed W.drew (w.heap.size + 1) 22 v ∧ Boxed W.drew w.heap.size 22 (.slice A0 l.length c0) ∧ W.drew.heap[Bx]? = some (.cells #[.bool bb, .int .i64 (lo : Int), .int .i64 (hi' : Int)] 64 (0, 0)) := ⟨h1, h4, hX⟩
    have h6' : Below w.heap.size w W.drew := h6.drew
    have h2' : W.drew.ownsRow w.heap.size 9 1 v (outsL l l.length pre).length ((outsL l l.length pre).map .string) := h2
    have h5' : Boxed W.drew (w.heap.size + 1 + 1 + 1) 3 (.int .i64 (i : Int)) := h5
    have HP := Lib.hid hpl
    have h5'' := h5
    clear hpl hA' h1 h4 hX h6 h2 h5 bL bO bN bI hB0 hlr
    have H5W := Lib.hid h5''
    clear h5''
    gi_wp2
    refine Held.region_ [0, 1, 2, 3, 4, 5, 6] (fun u => Boxed u (w.heap.size + 1) 22 v ∧ Boxed u w.heap.size 22 (.slice A0 l.length c0) ∧ u.heap[Bx]? = some (.cells #[.bool bb, .int .i64 (lo : Int), .int .i64 (hi' : Int)] 64 (0, 0))) 11 mixed rfl ?_
    refine Held.take_ 0 v (fun _ => trivial) (by kernel_rfl) rfl (by kernel_rfl) (fun _ _ _ h => h) hD0 rfl (fun u hu => ?_) ?_
    · have := hu.1.cell
      clear hu
      go_simp
    simp only [Act.put, List.setIfInBounds_toArray, List.set_cons_zero, List.set_cons_succ]
    refine Held.take_ 1 (.slice A0 l.length c0) (fun _ => trivial) (by kernel_rfl) rfl (by kernel_rfl) (fun _ _ _ h => h) hD0 rfl (fun u hu => ?_) ?_
    · have := hu.2.1.cell
      clear hu
      go_simp
    simp only [Act.put, List.setIfInBounds_toArray, List.set_cons_zero, List.set_cons_succ]
    refine Held.take_ 2 (.pointer (some ⟨Bx, 1, none⟩)) (fun _ => trivial) (by kernel_rfl) rfl (by kernel_rfl) (fun _ _ _ h => h) hD0 rfl (fun u hu => ?_) ?_
    · clear hu
      go_simp
    simp only [Act.put, List.setIfInBounds_toArray, List.set_cons_zero, List.set_cons_succ]
    refine Held.take_ 3 (.int .i64 (lo : Int)) (fun _ => trivial) (by kernel_rfl) rfl (by kernel_rfl) (fun _ _ _ h => h) hD0 rfl (fun u hu => ?_) ?_
    · have : u.cell? ⟨Bx, 1, none⟩ = some (.int .i64 (lo : Int)) := by simp [World.cell?, hu.2.2]
      clear hu
      go_simp
    simp only [Act.put, List.setIfInBounds_toArray, List.set_cons_zero, List.set_cons_succ]
    refine Held.take_ 4 (.pointer (some ⟨Bx, 2, none⟩)) (fun _ => trivial) (by kernel_rfl) rfl (by kernel_rfl) (fun _ _ _ h => h) hD0 rfl (fun u hu => ?_) ?_
    · clear hu
      go_simp
    simp only [Act.put, List.setIfInBounds_toArray, List.set_cons_zero, List.set_cons_succ]
    refine Held.take_ 5 (.int .i64 (hi' : Int)) (fun _ => trivial) (by kernel_rfl) rfl (by kernel_rfl) (fun _ _ _ h => h) hD0 rfl (fun u hu => ?_) ?_
    · have : u.cell? ⟨Bx, 2, none⟩ = some (.int .i64 (hi' : Int)) := by simp [World.cell?, hu.2.2]
      clear hu
      go_simp
    simp only [Act.put, List.setIfInBounds_toArray, List.set_cons_zero, List.set_cons_succ]
    refine Held.take_ 6 (.slice A' (hi' - lo) (c0 - lo)) (fun _ => trivial) (by kernel_rfl) rfl (by kernel_rfl) (fun _ _ _ h => h) hD0 rfl (fun u hu => ?_) ?_
    · clear hu
      go_simp
    simp only [Act.put, List.setIfInBounds_toArray, List.set_cons_zero, List.set_cons_succ]
    refine Held.only_ 7 (by kernel_rfl) rfl (fun K hK => ?_)
    have HK := Lib.hid hK
    clear hK
    have HD := Lib.hid hD0; have H6 := Lib.hid h6'; have H2 := Lib.hid h2'; have H5 := Lib.hid h5'
    clear hD0 h6' h2' h5'
    gi_wp2_with (refine ⟨trivial, ?_⟩; gi_at_call 34; refine (CallsIn.inRound _ (callsIn_wide.2 (HC.out _ H6.out))).mono ?_; rintro e u ⟨rfl, hb⟩)
    have HB := Lib.hid hb
    obtain ⟨HDu, HRu⟩ : Hid (Boxed u (w.heap.size + 1) 22 v ∧ Boxed u w.heap.size 22 (.slice A0 l.length c0) ∧ u.heap[Bx]? = some (.cells #[.bool bb, .int .i64 (lo : Int), .int .i64 (hi' : Int)] 64 (0, 0))) ∧
        Hid (Boxed u (w.heap.size + 1 + 1 + 1) 3 (.int .i64 (i : Int)) ∧ Below w.heap.size w u ∧ u.ownsRow w.heap.size 9 1 v (outsL l l.length pre).length ((outsL l l.length pre).map .string) ∧ KeepsFrom W0.heap.size W u ∧ Below w.heap.size W u) := by
      obtain ⟨d1, d2, d3⟩ := HD.out
      refine ⟨Lib.hid ⟨(hb.block _ d1.lt).trans d1, (hb.block _ d2.lt).trans d2, (hb.block _ (Array.getElem?_eq_some_iff.1 d3).1).trans d3⟩, Lib.hid ⟨(hb.block _ H5.out.lt).trans H5.out, H6.out.trans (hb.mono H6.out.size), ?_, ⟨hb.size, fun k o _ hk _ => (hb.block k (Array.getElem?_eq_some_iff.1 hk).1).trans hk⟩, ((Below.refl w.heap.size W).drew).trans (hb.mono H6.out.size)⟩⟩
      exact Kd.own_of_R (h1 := fun _ => rfl) (Kd.R_below (Kd.R_of_own (ok := fun _ => True) H2.out (fun _ _ => trivial)) hb)
    clear hb HB
    refine HK.out _ _ (fun _ => HDu.out) ?_
    clear HK K HD H6 H2 H5 HC
    refine Held.only_ 8 (by kernel_rfl) rfl (fun K hK => ?_)
    have HK := Lib.hid hK
    clear hK
    obtain ⟨cr, hcr⟩ : ∃ cr, cr = TM.crownL sumB (TM.part l lo hi') := ⟨_, rfl⟩
    rw [← hcr]
    have HCR := Lib.hid hcr
    clear hcr
    gi_wp2
    refine HK.out _ _ (fun _ => ⟨HDu.out.1.alloc _, HDu.out.2.1.alloc _, (Below.heap_alloc _ _ _ (Array.getElem?_eq_some_iff.1 HDu.out.2.2).1).trans HDu.out.2.2⟩) ?_
    clear HK K
    refine Held.only_ 9 (by kernel_rfl) rfl (fun K hK => ?_)
    have HK := Lib.hid hK
    clear hK
    have hzu := HRu.out.2.1.size
    have hol : (outsL l l.length pre).length ≤ 4096 := by
      have h12 := TM.way_le 12 l.length 0 i hm
      have : (outsL l l.length pre).length = pre.length := List.length_map _
      omega
    gi_wp2_with (gi_at_builtin; refine wpListIn_append_own _ rfl _ _ 22 rfl w.heap.size 9 i0 (.string ⟨#[]⟩) 1 16 Tryd.underlying22 hi0 hz0 hsz0 hby0 rfl (by decide) _ _ _ rfl (HRu.out.2.2.1.alloc _) ⟨u.heap.size, 0, none⟩ 1 1 [.string cr] rfl rfl (cell_one_new _ _ _) (by simp [Value.oneCell']) (by unfold maxLen; omega) (by omega) (by simp; omega) ?_; intro v' w1 hown' hgrow _; obtain ⟨g', cap', rfl⟩ := ownsRow_succ hown')
    obtain ⟨d1, d2, d3⟩ := HDu.out
    obtain ⟨r1, r2, r3, r4, r5⟩ := HRu.out
    obtain ⟨a1, a2, a3, a4, a5⟩ := d1.appended (by decide) r3 r2.size (by omega) hown' hgrow
    have d2' := (d2.alloc (.cells #[.string cr] 9)).kept hgrow (d2.not_row (by decide) r3)
    have r1' := (r1.alloc (.cells #[.string cr] 9)).kept hgrow (r1.not_row (by decide) r3)
    have hne : some Bx ≠ v.ownBlock := by
      rcases r3.2 with ⟨rfl, _⟩ | ⟨g, cap, cur, rfl, _, hg, _⟩
      · simp [Value.ownBlock]
      · intro e
        have e2 : Bx = g := by simpa [Value.ownBlock] using e
        rw [e2, hg] at d3
        injection d3 with d3
        injection d3 with _ d3 _
        cases d3
    have d3' := (hgrow.block Bx (by have := (Array.getElem?_eq_some_iff.1 d3).1; simp; omega) hne).trans ((Below.heap_alloc _ _ _ (Array.getElem?_eq_some_iff.1 d3).1).trans d3)
    refine HK.out _ _ (fun _ => ⟨a1, d2', d3'⟩) ?_
    have HA2 := Lib.hid a2; have HA3 := Lib.hid a3
    have HE := Lib.hid (And.intro d2' (And.intro r1' (And.intro a4 (And.intro a5 (And.intro r4 (And.intro r2 r5))))))
    have hcb := a1.cell; have hfb := a1.frozen
    clear HK K d1 d2 d3 r1 r2 r3 r4 r5 a1 a2 a3 a4 a5 d2' r1' hne d3' HDu hown' hgrow
    refine Held.only_ 10 (by kernel_rfl) rfl (fun K hK => ?_)
    have HK := Lib.hid hK
    clear hK
    gi_wp2
    refine HK.out _ _ (Held.not_needed (by kernel_rfl)) ?_
    refine Held.done_ (by kernel_rfl) ?_
    obtain ⟨e1, e2, e3, e4, e5, e6, e7⟩ := HE.out
    refine ⟨e5.trans (e3.from _), ⟨e7.trans e4, (e2.other (by omega) _).trans H5W.out.symm⟩, ⟨⟨⟨⟨_, HA2.out, ?_, trivial⟩, e1.other (by omega) _⟩, e2.other (by omega) _⟩, e6.trans e4⟩⟩
    rw [outsL_snoc, List.length_append, strs_snoc]
    dsimp only
    rw [← HCR.out]
    exact HA3.out
  case done =>
    rintro D ys W3 hD hS ⟨⟨⟨⟨v, h1, h2, _⟩, h4⟩, h5⟩, h6⟩ hK
    have hys : ys.length ≤ 4096 := by
      have h12 := TM.way_le 12 l.length 0 i hm
      have := congrArg List.length hS
      rw [List.length_map] at this
      omega
    have hpath : (outsL l l.length ys).reverse = TM.pathL sumB l i := by
      rw [← TM.path_way0 sumB l i hi, ← hS]
      unfold outsL
      rw [List.map_map]
      rfl
    have hol : (outsL l l.length ys).length ≤ 4096 := by
      rw [show (outsL l l.length ys).length = ys.length from List.length_map _]
      exact hys
    have hov : some (w.heap.size + 1) ≠ v.ownBlock := h1.not_row (by decide) h2
    have HV := Lib.hid ((rev_any w.heap.size v (outsL l l.length ys) W3 h2 hol).mono (R' := fun e u => e = .returned (.tuple #[]) ∧ (u.ownsRow w.heap.size 9 1 v (outsL l l.length ys).length ((outsL l l.length ys).reverse.map .string) ∧ W3.grownBy u v.ownBlock) ∧ u.cell? ⟨w.heap.size + 1, 0, none⟩ = some v)
      fun e u ⟨he, hu, hg⟩ => ⟨he, ⟨hu, hg⟩, (h1.kept hg hov).cell⟩)
    have hdv : some D ≠ v.ownBlock := by
      rcases h2.2 with ⟨rfl, _⟩ | ⟨g, cap, cur, rfl, _, hg, _⟩
      · simp [Value.ownBlock]
      · intro e
        have e2 : D = g := by simpa [Value.ownBlock] using e
        rw [← e2, hK] at hg
        cases hg
    have hlv : ∀ k, v.ownBlock = some k → w.heap.size ≤ k := fun k e => (h2.lt k e).1
    have hcb := h1.cell
    have HA := Lib.hid (And.intro h1 (And.intro h6 hK)); have HP := Lib.hid hpath; have HN := Lib.hid (And.intro hdv (And.intro hov hlv))
    have hbig := (Array.getElem?_eq_some_iff.1 hK).1
    clear h1 h2 h4 h5 h6 hK hS hys hpath hol hdv hov hlv bL bO bN bI hB0
    gi_wp2_with (refine ⟨trivial, ?_⟩; gi_at_call 35; refine (callsIn_wide.2 HV.out).mono ?_; rintro e u ⟨rfl, hu, hcu⟩; have HU := Lib.hid hu; clear hu)
    obtain ⟨hb, h6, hK⟩ := HA.out
    obtain ⟨hu, hg⟩ := HU.out
    obtain ⟨hdv, hov, hlv⟩ := HN.out
    have hKu : u.heap[D]? = some (.deferred (some [])) := (hg.block D hbig hdv).trans hK
    have hpl := congrArg List.length HP.out
    rw [List.length_reverse] at hpl
    refine ⟨by simp, .inl ⟨_, _, rfl, run_takeDeferred hKu, ?_⟩⟩
    refine ⟨_, by simp [results, Tryd.results14, go_sem], v, rfl, ?_, ?_⟩
    · rw [HP.out] at hu
      rw [hpl] at hu
      exact ownsRow_putObj hu _ hKu rfl
    · exact (h6.grown hg h6.size hlv).trans (belowK_b (w := w) (Nat.le_refl _) u D _ _ (by omega) hKu rfl rfl)
  case stop =>
    rintro D c pre W3 _ _ h _
    exact h.elim

def tree_Path.f (l : List ByteArray) (i : Int) : Option (List ByteArray × Int) :=
  if 4096 < l.length then some ([], 4)
  else if i < 0 ∨ (l.length : Int) ≤ i then some ([], 1)
  else if ∀ s ∈ l, s.size ≤ 562949953421311 then some (TM.pathL sumB l i.toNat, 0) else none
set_option maxHeartbeats 1000000 in
set_option maxRecDepth 100000 in
theorem tree_Path.calls (A0 : Option Addr) (c0 : Nat) (l0 : List ByteArray) (a1 : Int) (r1 : List ByteArray) (r2 : Int) (w : World) (hT : Tabs w) (hr0 : Kd.C Kd.string w A0 l0.length l0) (hc0 : l0.length ≤ c0) (h : tree_Path.f l0 a1 = some (r1, r2)) :
    Calls Tryd.prog 14 #[.slice A0 l0.length c0, .int .i64 a1] w fun e w' => ∃ v0_ : Value, e = .returned (.tuple #[v0_, .int .i64 r2]) ∧ Kd.R Kd.string 9 w' w.heap.size (fun _ => True) v0_ r1 ∧ Below w.heap.size w w' := by
  unfold tree_Path.f at h
  have hB := (Below.refl w.heap.size w).alloc (Nat.le_refl _) (.cells #[.slice A0 l0.length c0] 22)
  by_cases h1 : 4096 < l0.length
  · rw [if_pos h1] at h
    obtain ⟨rfl, rfl⟩ := Prod.mk.inj (Option.some.inj h)
    have hd1 : decide ((4096 : Int) < (l0.length : Int)) = true := by simp; omega
    have hd2 : decide (4096 < l0.length) = true := by simp; omega
    have HB := Lib.hid hB
    clear h hr0 hT hB
    go_enter Tryd.func14, Tryd.ntmps14
    go_wp2
    refine bodyPost_ret (v := .tuple #[.slice none 0 0, .int .i64 4]) (by simp [results, Tryd.results14, go_sem]) rfl ⟨.slice none 0 0, rfl, Kd.R_nil _ _ _ _ _, HB.out⟩
  · rw [if_neg h1] at h
    by_cases h2 : a1 < 0 ∨ (l0.length : Int) ≤ a1
    · rw [if_pos h2] at h
      obtain ⟨rfl, rfl⟩ := Prod.mk.inj (Option.some.inj h)
      have hd1 : decide ((4096 : Int) < (l0.length : Int)) = false := by simp; omega
      have hd2 : decide (4096 < l0.length) = false := by simp; omega
      have HB := Lib.hid hB
      clear h hr0 hT hB
      by_cases h3 : a1 < 0
      · have hd3 : decide (a1 < 0) = true := by simpa using h3
        clear h2
        go_enter Tryd.func14, Tryd.ntmps14
        go_wp2
        refine bodyPost_ret (v := .tuple #[.slice none 0 0, .int .i64 1]) (by simp [results, Tryd.results14, go_sem]) rfl ⟨.slice none 0 0, rfl, Kd.R_nil _ _ _ _ _, HB.out⟩
      · have hd3 : decide (a1 < 0) = false := by simpa using h3
        have hd4 : decide ((l0.length : Int) ≤ a1) = true := by simp; omega
        clear h2
        go_enter Tryd.func14, Tryd.ntmps14
        go_wp2
        refine bodyPost_ret (v := .tuple #[.slice none 0 0, .int .i64 1]) (by simp [results, Tryd.results14, go_sem]) rfl ⟨.slice none 0 0, rfl, Kd.R_nil _ _ _ _ _, HB.out⟩
    · rw [if_neg h2] at h
      by_cases h3 : ∀ s ∈ l0, s.size ≤ 562949953421311
      · rw [if_pos h3] at h
        obtain ⟨rfl, rfl⟩ := Prod.mk.inj (Option.some.inj h)
        have := path_any A0 c0 l0 a1.toNat w hT (by omega) (by omega) h3 hr0 hc0
        rw [Int.toNat_of_nonneg (by omega)] at this
        exact this.mono fun e w' ⟨v, he, ho, hb⟩ => ⟨v, he, Kd.R_of_own ho (fun _ _ => trivial), hb⟩
      · rw [if_neg h3] at h
        cases h
end Go.Proofs.YtlcmpmodfkmfnaaDoor
