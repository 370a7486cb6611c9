-- Written by pp.py, a program of the session, with the kit's print. Not trusted: Lean checks it.
import Derived.Test.YtnigomohlgcojaaDoorR0
import Derived.Test.YtnigomohlgcojaaDoorR1
import Derived.Test.YtnigomohlgcojaaDoorR2
namespace Go.Proofs.YtnigomohlgcojaaDoor.R
open Go.RowKit Go.Proofs.YtnigomohlgcojaaDoor.Q Go.Proofs.YtnigomohlgcojaaDoorW.PrintWords Go.Proofs.YtnigomohlgcojaaDoorW.PrintLast Go.Proofs.YtnigomohlgcojaaDoorW.PrintMore
attribute [local go_sem] max2_int min2_int max_two min_two max_three min_three max_four min_four   -- for this text's walks alone
set_option linter.unusedVariables false
set_option linter.unusedSimpArgs false

attribute [local go_sem high] eqA40
/-! ### cartouchelaw04_ChainGrows: function 4 -/
def cartouchelaw04_ChainGrows.j0 : Nat → ByteArray → Bool → ByteArray → List (S40) → Int → List (S40) → Int → Bool → Option (Bool)
  | 0, _, _, _, _, _, _, _, _ => none
  | k + 1, x1, x5, x7, x9, x10, x11, x12, x47 => if x47 = true then (some x5) else (if x10 = 0 then (if x12 = 0 then (if (x11.length : Int) = (wrap64 ((x9.length : Int) + 1)) then (if 0 ≤ (x9.length : Int) then (if (x9.length : Int) ≤ (x11.length : Int) then ((cartoucheref04_Same.f k x9 (x11.take ((x9.length : Int) : Int).toNat)).bind fun t160 => (if x5 = true then (if t160 = true then (if (x9.length : Int) < (x11.length : Int) then (some ((((rd_T40 x11 (x9.length : Int)).f0).toList) == x7.toList && ((((rd_T40 x11 (x9.length : Int)).f1).toList) == x1.toList))) else (none)) else (some false)) else (some false))) else (none)) else (none)) else (some false)) else (some false)) else (some false))
def cartouchelaw04_ChainGrows.f (k : Nat) (l0 : List ByteArray) (a1 : ByteArray) : Option (Bool) := (cartouchelaw04_shown.f).bind fun t135 => ((cartouchelaw04_few.f l0).bind fun t136 => ((chain_Head.f l0).bind fun bt137 => ((chain_Links.f l0).bind fun bt139 => ((some (([] : List ByteArray) : List ByteArray)).bind fun y143 => (if y143.length + l0.length < 8796093022208 then ((some (y143 ++ l0 : List ByteArray)).bind fun y146 => (if y146.length < 8796093022208 then ((chain_Links.f (y146 ++ [a1])).bind fun bt152 => (if t136 = true then (if bt137.2 = 0 then (cartouchelaw04_ChainGrows.j0 k a1 t135 bt137.1 bt139.1 bt139.2 bt152.1 bt152.2 (decide ((a1.size : Int) > 65535))) else (cartouchelaw04_ChainGrows.j0 k a1 t135 bt137.1 bt139.1 bt139.2 bt152.1 bt152.2 true)) else (cartouchelaw04_ChainGrows.j0 k a1 t135 bt137.1 bt139.1 bt139.2 bt152.1 bt152.2 true))) else (none))) else (none))))))
theorem cartouchelaw04_ChainGrows.mono_l : ∀ k, (∀ y0 y1 y2 y3 y4 y5 y6 y7, LeO (cartouchelaw04_ChainGrows.j0 k y0 y1 y2 y3 y4 y5 y6 y7) (cartouchelaw04_ChainGrows.j0 (k + 1) y0 y1 y2 y3 y4 y5 y6 y7))
  | 0 => fun _ _ _ _ _ _ _ _ r h => by simp [cartouchelaw04_ChainGrows.j0] at h
  | k + 1 => by
    have ih0 := cartouchelaw04_ChainGrows.mono_l k
    · intro y0 y1 y2 y3 y4 y5 y6 y7
      unfold cartouchelaw04_ChainGrows.j0
      repeat' first
      | (with_reducible exact ih0 _ _ _ _ _ _ _ _)
      | (with_reducible exact cartoucheref04_Same.mono _ _ _)
      | (with_reducible exact LeO.refl _)
      | (with_reducible exact LeO.none _)
      | (with_reducible refine LeO.ite ?_ ?_)
      | (with_reducible refine LeO.bind ?_ (fun _ => ?_))
      | exact ih0 _ _ _ _ _ _ _ _
      | exact cartoucheref04_Same.mono _ _ _
      | exact LeO.none _
      | refine LeO.ite ?_ ?_
      | refine LeO.bind ?_ (fun _ => ?_)
theorem cartouchelaw04_ChainGrows.mono : ∀ a0 a1 k, LeO (cartouchelaw04_ChainGrows.f k a0 a1) (cartouchelaw04_ChainGrows.f (k + 1) a0 a1) := by
  intro a0 a1 k
  have ih0 := cartouchelaw04_ChainGrows.mono_l k
  unfold cartouchelaw04_ChainGrows.f
  repeat' first
      | (with_reducible exact ih0 _ _ _ _ _ _ _ _)
      | (with_reducible exact cartoucheref04_Same.mono _ _ _)
      | (with_reducible exact LeO.refl _)
      | (with_reducible exact LeO.none _)
      | (with_reducible refine LeO.ite ?_ ?_)
      | (with_reducible refine LeO.bind ?_ (fun _ => ?_))
      | exact ih0 _ _ _ _ _ _ _ _
      | exact cartoucheref04_Same.mono _ _ _
      | exact LeO.none _
      | refine LeO.ite ?_ ?_
      | refine LeO.bind ?_ (fun _ => ?_)
set_option maxHeartbeats 8000000 in
set_option maxRecDepth 100000 in
theorem cartouchelaw04_ChainGrows.calls (k : Nat) (A0 : Option Addr) (c0 : Nat) (l0 : List ByteArray) (a1 : ByteArray) (r : Bool) (w : World) (hT : Tabs w) (hr0 : Kd.C Kd.string w A0 l0.length l0) (hc0 : l0.length ≤ c0) (h : cartouchelaw04_ChainGrows.f k l0 a1 = some r) :
    Calls Tryd.prog 4 #[.slice A0 l0.length c0, .string a1] w fun e w' => e = .returned (.bool r) ∧ Below w.heap.size w w' := by
  have hu40 := Tryd.underlying40
  have HR0 := Aside0.mk hr0
  have HC0 := Aside0.mk hc0
  clear hr0 hc0
  have HB := Aside0.mk (Below.refl w.heap.size w)
  have H : ((cartouchelaw04_shown.f).bind fun t135 => ((cartouchelaw04_few.f l0).bind fun t136 => ((chain_Head.f l0).bind fun bt137 => ((chain_Links.f l0).bind fun bt139 => ((some (([] : List ByteArray) : List ByteArray)).bind fun y143 => (if y143.length + l0.length < 8796093022208 then ((some (y143 ++ l0 : List ByteArray)).bind fun y146 => (if y146.length < 8796093022208 then ((chain_Links.f (y146 ++ [a1])).bind fun bt152 => (if t136 = true then (if bt137.2 = 0 then (cartouchelaw04_ChainGrows.j0 k a1 t135 bt137.1 bt139.1 bt139.2 bt152.1 bt152.2 (decide ((a1.size : Int) > 65535))) else (cartouchelaw04_ChainGrows.j0 k a1 t135 bt137.1 bt139.1 bt139.2 bt152.1 bt152.2 true)) else (cartouchelaw04_ChainGrows.j0 k a1 t135 bt137.1 bt139.1 bt139.2 bt152.1 bt152.2 true))) else (none))) else (none))))))) = some r := h
  clear h
  replace H := Option.bind_eq_some_iff.mp H
  obtain ⟨t135, A30, H⟩ := H
  replace H : ((cartouchelaw04_few.f l0).bind fun t136 => ((chain_Head.f l0).bind fun bt137 => ((chain_Links.f l0).bind fun bt139 => ((some (([] : List ByteArray) : List ByteArray)).bind fun y143 => (if y143.length + l0.length < 8796093022208 then ((some (y143 ++ l0 : List ByteArray)).bind fun y146 => (if y146.length < 8796093022208 then ((chain_Links.f (y146 ++ [a1])).bind fun bt152 => (if t136 = true then (if bt137.2 = 0 then (cartouchelaw04_ChainGrows.j0 k a1 t135 bt137.1 bt139.1 bt139.2 bt152.1 bt152.2 (decide ((a1.size : Int) > 65535))) else (cartouchelaw04_ChainGrows.j0 k a1 t135 bt137.1 bt139.1 bt139.2 bt152.1 bt152.2 true)) else (cartouchelaw04_ChainGrows.j0 k a1 t135 bt137.1 bt139.1 bt139.2 bt152.1 bt152.2 true))) else (none))) else (none)))))) = some r := H
  have A3 := Aside0.mk A30
  clear A30
  replace H := Option.bind_eq_some_iff.mp H
  obtain ⟨t136, A40, H⟩ := H
  replace H : ((chain_Head.f l0).bind fun bt137 => ((chain_Links.f l0).bind fun bt139 => ((some (([] : List ByteArray) : List ByteArray)).bind fun y143 => (if y143.length + l0.length < 8796093022208 then ((some (y143 ++ l0 : List ByteArray)).bind fun y146 => (if y146.length < 8796093022208 then ((chain_Links.f (y146 ++ [a1])).bind fun bt152 => (if t136 = true then (if bt137.2 = 0 then (cartouchelaw04_ChainGrows.j0 k a1 t135 bt137.1 bt139.1 bt139.2 bt152.1 bt152.2 (decide ((a1.size : Int) > 65535))) else (cartouchelaw04_ChainGrows.j0 k a1 t135 bt137.1 bt139.1 bt139.2 bt152.1 bt152.2 true)) else (cartouchelaw04_ChainGrows.j0 k a1 t135 bt137.1 bt139.1 bt139.2 bt152.1 bt152.2 true))) else (none))) else (none))))) = some r := H
  have A4 := Aside0.mk A40
  clear A40
  replace H := Option.bind_eq_some_iff.mp H
  obtain ⟨⟨t137, t138⟩, A50, H⟩ := H
  replace H : ((chain_Links.f l0).bind fun bt139 => ((some (([] : List ByteArray) : List ByteArray)).bind fun y143 => (if y143.length + l0.length < 8796093022208 then ((some (y143 ++ l0 : List ByteArray)).bind fun y146 => (if y146.length < 8796093022208 then ((chain_Links.f (y146 ++ [a1])).bind fun bt152 => (if t136 = true then (if t138 = 0 then (cartouchelaw04_ChainGrows.j0 k a1 t135 t137 bt139.1 bt139.2 bt152.1 bt152.2 (decide ((a1.size : Int) > 65535))) else (cartouchelaw04_ChainGrows.j0 k a1 t135 t137 bt139.1 bt139.2 bt152.1 bt152.2 true)) else (cartouchelaw04_ChainGrows.j0 k a1 t135 t137 bt139.1 bt139.2 bt152.1 bt152.2 true))) else (none))) else (none)))) = some r := H
  have A5 := Aside0.mk A50
  clear A50
  replace H := Option.bind_eq_some_iff.mp H
  obtain ⟨⟨t139, t140⟩, A60, H⟩ := H
  replace H : ((some (([] : List ByteArray) : List ByteArray)).bind fun y143 => (if y143.length + l0.length < 8796093022208 then ((some (y143 ++ l0 : List ByteArray)).bind fun y146 => (if y146.length < 8796093022208 then ((chain_Links.f (y146 ++ [a1])).bind fun bt152 => (if t136 = true then (if t138 = 0 then (cartouchelaw04_ChainGrows.j0 k a1 t135 t137 t139 t140 bt152.1 bt152.2 (decide ((a1.size : Int) > 65535))) else (cartouchelaw04_ChainGrows.j0 k a1 t135 t137 t139 t140 bt152.1 bt152.2 true)) else (cartouchelaw04_ChainGrows.j0 k a1 t135 t137 t139 t140 bt152.1 bt152.2 true))) else (none))) else (none))) = some r := H
  have A6 := Aside0.mk A60
  clear A60
  obtain ⟨y143, hy143⟩ : ∃ y_ : List ByteArray, y_ = (([] : List ByteArray)) := ⟨_, rfl⟩
  replace H : (if y143.length + l0.length < 8796093022208 then ((some (y143 ++ l0 : List ByteArray)).bind fun y146 => (if y146.length < 8796093022208 then ((chain_Links.f (y146 ++ [a1])).bind fun bt152 => (if t136 = true then (if t138 = 0 then (cartouchelaw04_ChainGrows.j0 k a1 t135 t137 t139 t140 bt152.1 bt152.2 (decide ((a1.size : Int) > 65535))) else (cartouchelaw04_ChainGrows.j0 k a1 t135 t137 t139 t140 bt152.1 bt152.2 true)) else (cartouchelaw04_ChainGrows.j0 k a1 t135 t137 t139 t140 bt152.1 bt152.2 true))) else (none))) else (none)) = some r := by first | (rw [hy143]; with_reducible exact H) | (have H2_ := (Option.bind_some _ _).symm.trans H; rw [hy143]; with_reducible exact H2_) | (have H2_ := (Option.bind_some _ _).symm.trans H; with_reducible exact H2_) | with_reducible exact H | (rw [hy143]; exact H) | exact H
  have Ny143 := Aside0.mk hy143
  clear hy143
  by_cases c7 : y143.length + l0.length < 8796093022208
  · rw [if_pos c7] at H
    have LMc7 := Aside0.mk c7
    clear c7
    obtain ⟨y146, hy146⟩ : ∃ y_ : List ByteArray, y_ = (y143 ++ l0) := ⟨_, rfl⟩
    replace H : (if y146.length < 8796093022208 then ((chain_Links.f (y146 ++ [a1])).bind fun bt152 => (if t136 = true then (if t138 = 0 then (cartouchelaw04_ChainGrows.j0 k a1 t135 t137 t139 t140 bt152.1 bt152.2 (decide ((a1.size : Int) > 65535))) else (cartouchelaw04_ChainGrows.j0 k a1 t135 t137 t139 t140 bt152.1 bt152.2 true)) else (cartouchelaw04_ChainGrows.j0 k a1 t135 t137 t139 t140 bt152.1 bt152.2 true))) else (none)) = some r := by first | (rw [hy146]; with_reducible exact H) | (have H2_ := (Option.bind_some _ _).symm.trans H; rw [hy146]; with_reducible exact H2_) | (have H2_ := (Option.bind_some _ _).symm.trans H; with_reducible exact H2_) | with_reducible exact H | (rw [hy146]; exact H) | exact H
    have Ny146 := Aside0.mk hy146
    clear hy146
    by_cases c8 : y146.length < 8796093022208
    · rw [if_pos c8] at H
      have LMc8 := Aside0.mk c8
      clear c8
      obtain ⟨y149, hy149⟩ : ∃ y_ : List ByteArray, y_ = (y146 ++ [a1]) := ⟨_, rfl⟩
      replace H : ((chain_Links.f y149).bind fun bt152 => (if t136 = true then (if t138 = 0 then (cartouchelaw04_ChainGrows.j0 k a1 t135 t137 t139 t140 bt152.1 bt152.2 (decide ((a1.size : Int) > 65535))) else (cartouchelaw04_ChainGrows.j0 k a1 t135 t137 t139 t140 bt152.1 bt152.2 true)) else (cartouchelaw04_ChainGrows.j0 k a1 t135 t137 t139 t140 bt152.1 bt152.2 true))) = some r := by first | (rw [hy149]; with_reducible exact H) | (have H2_ := (Option.bind_some _ _).symm.trans H; rw [hy149]; with_reducible exact H2_) | (have H2_ := (Option.bind_some _ _).symm.trans H; with_reducible exact H2_) | with_reducible exact H | (rw [hy149]; exact H) | exact H
      have Ny149 := Aside0.mk hy149
      clear hy149
      replace H := Option.bind_eq_some_iff.mp H
      obtain ⟨⟨t152, t153⟩, A90, H⟩ := H
      replace H : (if t136 = true then (if t138 = 0 then (cartouchelaw04_ChainGrows.j0 k a1 t135 t137 t139 t140 t152 t153 (decide ((a1.size : Int) > 65535))) else (cartouchelaw04_ChainGrows.j0 k a1 t135 t137 t139 t140 t152 t153 true)) else (cartouchelaw04_ChainGrows.j0 k a1 t135 t137 t139 t140 t152 t153 true)) = some r := H
      have A9 := Aside0.mk A90
      clear A90
      have HC10 := Aside0.mk H
      clear H
      go_enter Tryd.func4, Tryd.ntmps4
      go_upto_region 6 with (first | ((with_reducible refine gate_callee (f := 11) rfl ?_); refine goesL_ (some 14) rfl rfl Tryd.func11 (by kernel_rfl) rfl #[] rfl (by (try simp only [List.map_toArray, List.map_cons, List.map_nil]); first | done | rfl | (simp only [List.length_drop, List.length_take]; rfl)) ?_; (with_reducible refine (cartouchelaw04_shown.calls  t135 _ ?side1 A3.out).mono ?_); (case side1 => exact hT.below (by repeat (first | (with_reducible first | exact HB.out | apply below_alloc | apply pw_below_drewN | apply below_drew1) | exact HB.out)) hT.size); rintro e w11 ⟨rfl, hb⟩; refine ⟨_, rfl, ?_⟩; have n0_ := Aside0.mk (below_step (by repeat (first | (with_reducible first | exact HB.out | apply below_alloc | apply pw_below_drewN | apply below_drew1) | exact HB.out)) hb); clear HB; have HB := n0_; clear n0_; (try clear hb); (try clear hb2); (try clear hk); (try clear hi)) | ((with_reducible refine gate_callee (f := 12) rfl ?_); refine goesL_ (some 16) rfl rfl Tryd.func12 (by kernel_rfl) rfl #[.slice A0 l0.length c0] rfl (by (try simp only [List.map_toArray, List.map_cons, List.map_nil]); first | done | rfl | (simp only [List.length_drop, List.length_take]; rfl)) ?_; (with_reducible refine (cartouchelaw04_few.calls _ _ l0 t136 _ ?side1 ?side2 A4.out).mono ?_); (case side1 => repeat (first | exact (Kd.C_below HR0.out HB.out) | (with_reducible refine Kd.C_alloc ?_ _) | (with_reducible refine Kd.C_drewN ?_ _) | (with_reducible refine Kd.C_drew ?_))); (case side2 => exact HC0.out); rintro e w' ⟨rfl, ⟨nd, rfl⟩⟩; refine ⟨_, rfl, ?_⟩) | ((with_reducible refine gate_callee (f := 17) rfl ?_); refine goesL_ (some 19) rfl rfl Tryd.func17 (by kernel_rfl) rfl #[.slice A0 l0.length c0] rfl (by (try simp only [List.map_toArray, List.map_cons, List.map_nil]); first | done | rfl | (simp only [List.length_drop, List.length_take]; rfl)) ?_; (with_reducible refine (chain_Head.calls _ _ l0 t137 t138 _ ?side1 ?side2 ?side3 A5.out).mono ?_); (case side1 => exact hT.below (by repeat (first | (with_reducible first | exact HB.out | apply below_alloc | apply pw_below_drewN | apply below_drew1) | exact HB.out)) hT.size); (case side2 => repeat (first | exact (Kd.C_below HR0.out (by repeat (first | (with_reducible first | exact HB.out | apply below_alloc | apply pw_below_drewN | apply below_drew1) | exact HB.out))) | (with_reducible refine Kd.C_alloc ?_ _) | (with_reducible refine Kd.C_drewN ?_ _) | (with_reducible refine Kd.C_drew ?_))); (case side3 => exact HC0.out); rintro e w12 ⟨rfl, hb⟩; refine ⟨_, rfl, ?_⟩; have n0_ := Aside0.mk (below_step (by repeat (first | (with_reducible first | exact HB.out | apply below_alloc | apply pw_below_drewN | apply below_drew1) | exact HB.out)) hb); clear HB; have HB := n0_; clear n0_; (try clear hb); (try clear hb2); (try clear hk); (try clear hi)) | ((with_reducible refine gate_callee (f := 19) rfl ?_); refine goesL_ (some 24) rfl rfl Tryd.func19 (by kernel_rfl) rfl #[.slice A0 l0.length c0] rfl (by (try simp only [List.map_toArray, List.map_cons, List.map_nil]); first | done | rfl | (simp only [List.length_drop, List.length_take]; rfl)) ?_; (with_reducible refine (chain_Links.calls _ _ l0 t139 t140 _ ?side1 ?side2 ?side3 A6.out).mono ?_); (case side1 => exact hT.below (by repeat (first | (with_reducible first | exact HB.out | apply below_alloc | apply pw_below_drewN | apply below_drew1) | exact HB.out)) hT.size); (case side2 => repeat (first | exact (Kd.C_below HR0.out HB.out) | (with_reducible refine Kd.C_alloc ?_ _) | (with_reducible refine Kd.C_drewN ?_ _) | (with_reducible refine Kd.C_drew ?_))); (case side3 => exact HC0.out); rintro e w13 ⟨v141, rfl, ho0, hb⟩; refine ⟨_, rfl, ?_⟩; have n0_ := Aside0.mk (Kd.R_lower ho0 (below_size (by repeat (first | (with_reducible first | exact HB.out | apply below_alloc | apply pw_below_drewN | apply below_drew1) | exact HB.out)))); have n1_ := Aside0.mk (below_step (by repeat (first | (with_reducible first | exact HB.out | apply below_alloc | apply pw_below_drewN | apply below_drew1) | exact HB.out)) hb); clear HB; have HO142 := n0_; have HB := n1_; clear n0_ n1_; (try clear hb); (try clear hb2); (try clear hk); (try clear hi); (try clear ho0)) | ((with_reducible refine gate_dst (N := 28) rfl ?_); (try (refine gate_guard (by rfl) ?_; dsimp only)); refine Kd.R_lit Kd.string _ 9 ?hg (N := 28) ?hd (xs := ([] : List ByteArray)) (inner := []) (ok := fun _ => True) (okp := fun _ => True) ?hr ?hp (fun _ hk => hk) trivial (Below.refl _ _) (Nat.le_refl _) (by simp) ?_; (case hd => rfl); (case hg => rfl); (case hr => first | (go_simp; done) | (go_simp; rfl)); (case hp => exact (Reps.none _ _)); intro v144 w14 ho15 hb hg_ hnew_; clear hg_ hnew_; (first | rw [← Ny143.out] at ho15 | (simp only [Int.reduceToNat] at ho15; rw [← Ny143.out] at ho15)); have n0_ := Aside0.mk (Kd.R_below (by (with_reducible repeat (first | apply Kd.R_alloc | apply Kd.R_drewN | apply Kd.R_drew)); exact HO142.out) hb); have n1_ := Aside0.mk (Kd.R_lower ho15 (below_size (by repeat (first | (with_reducible first | exact HB.out | apply below_alloc | apply pw_below_drewN | apply below_drew1) | exact HB.out)))); have n2_ := Aside0.mk (below_step (by repeat (first | (with_reducible first | exact HB.out | apply below_alloc | apply pw_below_drewN | apply below_drew1) | exact HB.out)) hb); clear HO142; clear HB; have HO142 := n0_; have HO145 := n1_; have HB := n2_; clear n0_ n1_ n2_; clear hb ho15) | ((with_reducible refine gate_builtin (b := .append) (xs := #[.tmp 28, .tmp 29]) rfl ?_); (try (refine gate_guard (by rfl) ?_; dsimp only)); at_builtin; refine Kd.R_append_rows Kd.string (w0 := w) w.heap.size rfl (.tmp 28) (.tmp 29) 22 9 (.string ⟨#[]⟩) 16 rfl Tryd.underlying22 info9 rfl (by decide) (by omega) v144 y143 l0 _ _ _ (fun _ => True) (fun _ => False) rfl rfl ?aO ?aR (fun _ _ h => h) (fun _ h => h.elim) ?aF ?aB ?aS ?aL ?_; (case aR => repeat (first | exact (Kd.C_below HR0.out HB.out) | (with_reducible refine Kd.C_alloc ?_ _) | (with_reducible refine Kd.C_drewN ?_ _) | (with_reducible refine Kd.C_drew ?_))); (case aB => exact (by repeat (first | (with_reducible first | exact HB.out | apply below_alloc | apply pw_below_drewN | apply below_drew1) | exact HB.out))); (case aF => exact (fun _ _ => trivial)); (case aO => exact (by (with_reducible repeat (first | apply Kd.R_alloc | apply Kd.R_drewN | apply Kd.R_drew)); exact HO145.out)); (case aS => exact (below_size (by repeat (first | (with_reducible first | exact HB.out | apply below_alloc | apply pw_below_drewN | apply below_drew1) | exact HB.out)))); (case aL => have := LMc7.out; omega); intro v147 w16 ho hb hg hat; rw [← Ny146.out] at ho; have n0_ := Aside0.mk (Kd.R_over' (by (with_reducible repeat (first | apply Kd.R_alloc | apply Kd.R_drewN | apply Kd.R_drew)); exact HO142.out) (Kd.R_typed (by (with_reducible repeat (first | apply Kd.R_alloc | apply Kd.R_drewN | apply Kd.R_drew)); exact HO145.out)) (by decide) hg); have n1_ := Aside0.mk (hb); have n2_ := Aside0.mk (ho); clear HO142; clear HB; clear HO145; have HO142 := n0_; have HB := n1_; have HO148 := n2_; clear n0_ n1_ n2_; clear ho hb hg hat) | ((with_reducible refine gate_builtin (b := .append) (xs := #[.tmp 30, .tmp 32]) rfl ?_); (try (refine gate_guard (by rfl) ?_; dsimp only)); at_builtin; refine Kd.R_append Kd.string (w0 := w) w.heap.size rfl (.tmp 30) (.tmp 32) 22 9 (.string ⟨#[]⟩) 16 rfl Tryd.underlying22 info9 rfl (by decide) (by omega) v147 y146 a1 [.string a1] (fun _ => True) (fun _ => False) rfl rfl ?aP (fun _ hk => hk.elim) ?aF ?aO ?aB ?aS ?aL ?_; (case aP => exact rfl); (case aB => exact (by repeat (first | (with_reducible first | exact HB.out | apply below_alloc | apply pw_below_drewN | apply below_drew1) | exact HB.out))); (case aF => exact (fun _ _ => trivial)); (case aO => exact (by (with_reducible repeat (first | apply Kd.R_alloc | apply Kd.R_drewN | apply Kd.R_drew)); exact HO148.out)); (case aS => exact (below_size (by repeat (first | (with_reducible first | exact HB.out | apply below_alloc | apply pw_below_drewN | apply below_drew1) | exact HB.out)))); (case aL => have := LMc8.out; omega); intro v150 w17 ho hb hg hat; rw [← Ny149.out] at ho; have n0_ := Aside0.mk (Kd.R_over' (by (with_reducible repeat (first | apply Kd.R_alloc | apply Kd.R_drewN | apply Kd.R_drew)); exact HO142.out) (Kd.R_typed (by (with_reducible repeat (first | apply Kd.R_alloc | apply Kd.R_drewN | apply Kd.R_drew)); exact HO148.out)) (by decide) hg); have n1_ := Aside0.mk (hb); have n2_ := Aside0.mk (ho); clear HO142; clear HB; clear HO148; have HO142 := n0_; have HB := n1_; have HO151 := n2_; clear n0_ n1_ n2_; clear ho hb hg hat; obtain ⟨Ao18, co18, eo18⟩ := Kd.R_slice HO151.out; subst eo18) | ((with_reducible refine gate_callee (f := 19) rfl ?_); refine goesL_ (some 34) rfl rfl Tryd.func19 (by kernel_rfl) rfl #[.slice Ao18 y149.length co18] rfl (by (try simp only [List.map_toArray, List.map_cons, List.map_nil]); first | done | rfl | (simp only [List.length_drop, List.length_take]; rfl)) ?_; (with_reducible refine (chain_Links.calls _ _ y149 t152 t153 _ ?side1 ?side2 ?side3 A9.out).mono ?_); (case side1 => exact hT.below (by repeat (first | (with_reducible first | exact HB.out | apply below_alloc | apply pw_below_drewN | apply below_drew1) | exact HB.out)) hT.size); (case side2 => repeat (first | exact (Kd.R_reads' HO151.out).2.2 | (with_reducible refine Kd.C_alloc ?_ _) | (with_reducible refine Kd.C_drewN ?_ _) | (with_reducible refine Kd.C_drew ?_))); (case side3 => exact (Kd.R_reads' HO151.out).2.1); rintro e w19 ⟨v154, rfl, ho0, hb⟩; refine ⟨_, rfl, ?_⟩; have n0_ := Aside0.mk (Kd.R_elder' (by (with_reducible repeat (first | apply Kd.R_alloc | apply Kd.R_drewN | apply Kd.R_drew)); exact HO142.out) (Kd.R_base ho0) hb); have n1_ := Aside0.mk (Kd.R_below (by (with_reducible repeat (first | apply Kd.R_alloc | apply Kd.R_drewN | apply Kd.R_drew)); exact HO151.out) hb); have n2_ := Aside0.mk (Kd.R_lower (Kd.R_new' ho0 (Kd.R_lt (by (with_reducible repeat (first | apply Kd.R_alloc | apply Kd.R_drewN | apply Kd.R_drew)); exact HO142.out))) (below_size (by repeat (first | (with_reducible first | exact HB.out | apply below_alloc | apply pw_below_drewN | apply below_drew1) | exact HB.out)))); have n3_ := Aside0.mk (below_step (by repeat (first | (with_reducible first | exact HB.out | apply below_alloc | apply pw_below_drewN | apply below_drew1) | exact HB.out)) hb); clear HO142; clear HO151; clear HB; have HO142 := n0_; have HO151 := n1_; have HO155 := n2_; have HB := n3_; clear n0_ n1_ n2_ n3_; (try clear hb); (try clear hb2); (try clear hk); (try clear hi); (try clear ho0)))
      (try simp only [Act.put, List.setIfInBounds_toArray, List.set_cons_zero, List.set_cons_succ])
      go_cut [47] (fun v47 wc => ∃ (kq : Nat) (x47_9 : Bool), v47 = .bool x47_9 ∧ Aside0 (cartouchelaw04_ChainGrows.j0 kq a1 t135 t137 t139 t140 t152 t153 x47_9 = some r) ∧ Aside0 (kq ≤ k) ∧ Aside0 (Kd.R k40 40 wc w.heap.size (fun k_ => some k_ ≠ (v154 : Value).ownBlock) v141 t139) ∧ Aside0 (Kd.R k40 40 wc w.heap.size (fun k_ => some k_ ≠ (v141 : Value).ownBlock) v154 t152) ∧ Aside0 (Below w.heap.size w wc))
      case first =>
        have H := HC10.out
        clear HC10
        by_cases c20 : t136 = true
        · subst c20
          have H1 : (if t138 = 0 then (cartouchelaw04_ChainGrows.j0 k a1 t135 t137 t139 t140 t152 t153 (decide ((a1.size : Int) > 65535))) else (cartouchelaw04_ChainGrows.j0 k a1 t135 t137 t139 t140 t152 t153 true)) = some r := by rw [if_pos rfl] at H; exact H
          clear H
          have H := H1
          clear H1
          by_cases c21 : t138 = 0
          · rw [if_pos c21] at H
            have c21b0 : (t138 == 0) = true := beq_iff_eq.mpr c21
            have c21b1 : (t138 != 0) = false := bne_eq_false_iff_eq.mpr c21
            clear c21
            (first | rw [c21b0] | (simp only [i64_w, i32_w]; rw [c21b0]) | skip)
            have H' := Aside0.mk H
            clear H
            go_wp2
            go_meet
            case rel => exact ⟨_, (decide ((a1.size : Int) > 65535)), (by first | rfl | (simp; done) | (simp [*]; done)), H', ⟨by first | omega | exact Nat.le_refl _⟩, ⟨by (with_reducible repeat (first | apply Kd.R_alloc | apply Kd.R_drewN | apply Kd.R_drew)); exact Kd.R_mono HO142.out (fun _ hk => hk.2)⟩, ⟨by (with_reducible repeat (first | apply Kd.R_alloc | apply Kd.R_drewN | apply Kd.R_drew)); exact Kd.R_mono HO155.out (fun _ hk => hk.2)⟩, ⟨by repeat (first | (with_reducible first | exact HB.out | apply below_alloc | apply pw_below_drewN | apply below_drew1) | exact HB.out)⟩⟩
          · rw [if_neg c21] at H
            have c21b0 : (t138 == 0) = false := beq_eq_false_iff_ne.mpr c21
            have c21b1 : (t138 != 0) = true := bne_iff_ne.mpr c21
            (first | rw [c21b0] | (simp only [i64_w, i32_w]; rw [c21b0]) | skip)
            have H' := Aside0.mk H
            clear H
            go_wp2
            go_meet
            case rel => exact ⟨_, (true), (by first | rfl | (simp; done) | (simp [*]; done)), H', ⟨by first | omega | exact Nat.le_refl _⟩, ⟨by (with_reducible repeat (first | apply Kd.R_alloc | apply Kd.R_drewN | apply Kd.R_drew)); exact Kd.R_mono HO142.out (fun _ hk => hk.2)⟩, ⟨by (with_reducible repeat (first | apply Kd.R_alloc | apply Kd.R_drewN | apply Kd.R_drew)); exact Kd.R_mono HO155.out (fun _ hk => hk.2)⟩, ⟨by repeat (first | (with_reducible first | exact HB.out | apply below_alloc | apply pw_below_drewN | apply below_drew1) | exact HB.out)⟩⟩
        · replace c20 := Bool.eq_false_iff.mpr c20
          subst c20
          have H1 : (cartouchelaw04_ChainGrows.j0 k a1 t135 t137 t139 t140 t152 t153 true) = some r := by rw [if_neg (show ¬ (false = true) by decide)] at H; exact H
          clear H
          have H := H1
          clear H1
          have H' := Aside0.mk H
          clear H
          go_wp2
          go_meet
          case rel => exact ⟨_, (true), (by first | rfl | (simp; done) | (simp [*]; done)), H', ⟨by first | omega | exact Nat.le_refl _⟩, ⟨by (with_reducible repeat (first | apply Kd.R_alloc | apply Kd.R_drewN | apply Kd.R_drew)); exact Kd.R_mono HO142.out (fun _ hk => hk.2)⟩, ⟨by (with_reducible repeat (first | apply Kd.R_alloc | apply Kd.R_drewN | apply Kd.R_drew)); exact Kd.R_mono HO155.out (fun _ hk => hk.2)⟩, ⟨by repeat (first | (with_reducible first | exact HB.out | apply below_alloc | apply pw_below_drewN | apply below_drew1) | exact HB.out)⟩⟩
      case rest =>
        clear HC10
        try clear c1
        try clear c2
        try clear p2
        try clear c4
        try clear c7
        try clear c8
        try clear c11
        try clear c12
        try clear c17
        try clear c19
        try clear c20
        try clear c21
        try clear c21b0
        try clear c21b1
        obtain ⟨kq, x47_9, rfl, HA, HJ9, HO_9, HO_11, HB⟩ := hcut
        cases kq with
        | zero => exact absurd HA.out (by simp [cartouchelaw04_ChainGrows.j0])
        | succ kj9 =>
          have H := HA.out
          clear HA
          simp only [cartouchelaw04_ChainGrows.j0] at H
          by_cases c22 : x47_9 = true
          · subst c22
            have H1 : (some t135) = some r := by rw [if_pos rfl] at H; exact H
            clear H
            have H := H1
            clear H1
            obtain rfl := Option.some.inj H
            go_wp2
            go_ret
            exact ⟨by first | rfl | (simp [errW_none, errW_some] <;> rfl) | (simp [*, errW_none, errW_some] <;> rfl), by repeat (first | (with_reducible first | exact HB.out | apply below_alloc | apply pw_below_drewN | apply below_drew1) | exact HB.out)⟩
          · replace c22 := Bool.eq_false_iff.mpr c22
            subst c22
            have H1 : (if t140 = 0 then (if t153 = 0 then (if (t152.length : Int) = (wrap64 ((t139.length : Int) + 1)) then (if 0 ≤ (t139.length : Int) then (if (t139.length : Int) ≤ (t152.length : Int) then ((cartoucheref04_Same.f kj9 t139 (t152.take ((t139.length : Int) : Int).toNat)).bind fun t160 => (if t135 = true then (if t160 = true then (if (t139.length : Int) < (t152.length : Int) then (some ((((rd_T40 t152 (t139.length : Int)).f0).toList) == t137.toList && ((((rd_T40 t152 (t139.length : Int)).f1).toList) == a1.toList))) else (none)) else (some false)) else (some false))) else (none)) else (none)) else (some false)) else (some false)) else (some false)) = some r := by rw [if_neg (show ¬ (false = true) by decide)] at H; exact H
            clear H
            have H := H1
            clear H1
            by_cases c23 : t140 = 0
            · rw [if_pos c23] at H
              have c23b0 : (t140 == 0) = true := beq_iff_eq.mpr c23
              have c23b1 : (t140 != 0) = false := bne_eq_false_iff_eq.mpr c23
              clear c23
              by_cases c24 : t153 = 0
              · rw [if_pos c24] at H
                have c24b0 : (t153 == 0) = true := beq_iff_eq.mpr c24
                have c24b1 : (t153 != 0) = false := bne_eq_false_iff_eq.mpr c24
                clear c24
                by_cases c25 : (t152.length : Int) = (wrap64 ((t139.length : Int) + 1))
                · rw [if_pos c25] at H
                  have c25b0 : ((t152.length : Int) == (wrap64 ((t139.length : Int) + 1))) = true := beq_iff_eq.mpr c25
                  have c25b1 : ((t152.length : Int) != (wrap64 ((t139.length : Int) + 1))) = false := bne_eq_false_iff_eq.mpr c25
                  clear c25
                  by_cases c26 : 0 ≤ (t139.length : Int)
                  · rw [if_pos c26] at H
                    have c26b0 := eq_true c26
                    have c26b1 : decide (0 ≤ (t139.length : Int)) = true := decide_eq_true c26
                    clear c26
                    by_cases c27 : (t139.length : Int) ≤ (t152.length : Int)
                    · rw [if_pos c27] at H
                      have c27b0 := eq_true c27
                      have c27b1 : decide ((t139.length : Int) ≤ (t152.length : Int)) = true := decide_eq_true c27
                      clear c27
                      obtain ⟨y156, hy156⟩ : ∃ y_ : List (S40), y_ = (t152.take ((t139.length : Int) : Int).toNat) := ⟨_, rfl⟩
                      replace H : ((cartoucheref04_Same.f kj9 t139 y156).bind fun t160 => (if t135 = true then (if t160 = true then (if (t139.length : Int) < (t152.length : Int) then (some ((((rd_T40 t152 (t139.length : Int)).f0).toList) == t137.toList && ((((rd_T40 t152 (t139.length : Int)).f1).toList) == a1.toList))) else (none)) else (some false)) else (some false))) = some r := by first | (rw [hy156]; with_reducible exact H) | (have H2_ := (Option.bind_some _ _).symm.trans H; rw [hy156]; with_reducible exact H2_) | (have H2_ := (Option.bind_some _ _).symm.trans H; with_reducible exact H2_) | with_reducible exact H | (rw [hy156]; exact H) | exact H
                      have Ny156 := Aside0.mk hy156
                      clear hy156
                      replace H := Option.bind_eq_some_iff.mp H
                      obtain ⟨t160, A280, H⟩ := H
                      replace H : (if t135 = true then (if t160 = true then (if (t139.length : Int) < (t152.length : Int) then (some ((((rd_T40 t152 (t139.length : Int)).f0).toList) == t137.toList && ((((rd_T40 t152 (t139.length : Int)).f1).toList) == a1.toList))) else (none)) else (some false)) else (some false)) = some r := H
                      have A28 := Aside0.mk A280
                      clear A280
                      by_cases c29 : t135 = true
                      · subst c29
                        have H1 : (if t160 = true then (if (t139.length : Int) < (t152.length : Int) then (some ((((rd_T40 t152 (t139.length : Int)).f0).toList) == t137.toList && ((((rd_T40 t152 (t139.length : Int)).f1).toList) == a1.toList))) else (none)) else (some false)) = some r := by rw [if_pos rfl] at H; exact H
                        clear H
                        have H := H1
                        clear H1
                        by_cases c30 : t160 = true
                        · subst c30
                          have H1 : (if (t139.length : Int) < (t152.length : Int) then (some ((((rd_T40 t152 (t139.length : Int)).f0).toList) == t137.toList && ((((rd_T40 t152 (t139.length : Int)).f1).toList) == a1.toList))) else (none)) = some r := by rw [if_pos rfl] at H; exact H
                          clear H
                          have H := H1
                          clear H1
                          by_cases c31 : (t139.length : Int) < (t152.length : Int)
                          · rw [if_pos c31] at H
                            have c31b0 : decide ((t139.length : Int) < (t152.length : Int)) = true := decide_eq_true c31
                            have c31b1 : decide (t139.length < t152.length) = true := decide_eq_true (Int.ofNat_lt.mp c31)
                            clear c31
                            obtain rfl := Option.some.inj H
                            obtain ⟨Ao32, co32, eo32⟩ := Kd.R_slice HO_11.out
                            subst eo32
                            obtain ⟨Ao33, co33, eo33⟩ := Kd.R_slice HO_9.out
                            subst eo33
                            have q34 : ((t139.length : Int) : Int) ≤ ((t152.length : Int) : Int) := of_decide_eq_true (by first | (with_reducible assumption) | assumption)
                            obtain ⟨i034, hi034, _, hsz34, _⟩ := info_parts info40
                            have hroom34 : t152.length ≤ co32 := (Kd.R_reads' HO_11.out).2.1
                            have hC34 : Kd.C k40 _ Ao32 t152.length t152 := (Kd.R_reads' HO_11.out).2.2
                            have hcut34 := cut_to (P := Tryd.prog) 32 40 .i64 Tryd.underlying32 hi034 Ao32 t152.length co32 (t139.length : Int) (of_decide_eq_true (by first | (with_reducible assumption) | assumption)) q34 hroom34
                            have hr34 := Kd.C_take (m := ((t139.length : Int) : Int).toNat) hC34 (by omega)
                            have hy34 : y156.length = ((t139.length : Int) : Int).toNat := (by rw [Ny156.out, List.length_take]; omega)
                            rw [← Ny156.out] at hr34
                            rw [← hy34] at hcut34
                            have HR159 := Aside0.mk hr34
                            have HC159 := Aside0.mk (show y156.length ≤ co32 from by omega)
                            clear hr34 hC34 hroom34 hi034 hsz34
                            have KY34 := Aside0.mk hy34
                            clear hy34
                            have KL34 := Aside0.mk (show ((t139.length : Int) : Int).toNat ≤ t152.length from by omega)
                            replace q34 := eq_true q34
                            go_wp2_with (first | ((with_reducible refine gate_callee (f := 21) rfl ?_); refine goesL_ (some 68) rfl rfl Tryd.func21 (by kernel_rfl) rfl #[.slice Ao33 t139.length co33, .slice Ao32 y156.length co32] rfl (by (try simp only [List.map_toArray, List.map_cons, List.map_nil]); first | done | rfl | (simp only [List.length_drop, List.length_take]; rfl)) ?_; (with_reducible refine (cartoucheref04_Same.calls kj9 _ _ t139 _ _ y156 true _ ?side1 ?side2 ?side3 ?side4 A28.out).mono ?_); (case side1 => repeat (first | exact (Kd.R_reads' HO_9.out).2.2 | (with_reducible refine Kd.C_alloc ?_ _) | (with_reducible refine Kd.C_drewN ?_ _) | (with_reducible refine Kd.C_drew ?_))); (case side2 => exact (Kd.R_reads' HO_9.out).2.1); (case side3 => repeat (first | exact (by repeat (first | (with_reducible exact HR159.out) | (with_reducible refine Kd.C_alloc ?_ _) | (with_reducible refine Kd.C_drewN ?_ _) | (with_reducible refine Kd.C_drew ?_) | exact HR159.out)) | (with_reducible refine Kd.C_alloc ?_ _) | (with_reducible refine Kd.C_drewN ?_ _) | (with_reducible refine Kd.C_drew ?_))); (case side4 => exact HC159.out); rintro e w' ⟨rfl, ⟨nd, rfl⟩⟩; refine ⟨_, rfl, ?_⟩; have p161 : 0 ≤ ((t139.length : Int) : Int) := of_decide_eq_true (by first | (with_reducible assumption) | assumption); have q161 : (t139.length : Int) < (t152.length : Int) := of_decide_eq_true (by first | (with_reducible assumption) | assumption); obtain ⟨ad161, e161, hx161_0, hx161_1⟩ := at_T40 (Kd.R_reads' HO_11.out).2.2 (t139.length : Int) p161 q161; cases e161; (try simp only [Go.IntWalk.toNatUp] at hx161_0); (try simp only [Go.IntWalk.toNatUp] at hx161_1); replace p161 := eq_true p161; replace q161 := eq_true q161))
                            go_ret
                            exact ⟨by first | rfl | (simp [errW_none, errW_some] <;> rfl) | (simp [*, errW_none, errW_some] <;> rfl), by repeat (first | (with_reducible first | exact HB.out | apply below_alloc | apply pw_below_drewN | apply below_drew1) | exact HB.out)⟩
                          · rw [if_neg c31] at H
                            exact absurd H (by simp)
                        · replace c30 := Bool.eq_false_iff.mpr c30
                          subst c30
                          have H1 : (some false) = some r := by rw [if_neg (show ¬ (false = true) by decide)] at H; exact H
                          clear H
                          have H := H1
                          clear H1
                          obtain rfl := Option.some.inj H
                          obtain ⟨Ao35, co35, eo35⟩ := Kd.R_slice HO_11.out
                          subst eo35
                          obtain ⟨Ao36, co36, eo36⟩ := Kd.R_slice HO_9.out
                          subst eo36
                          have q37 : ((t139.length : Int) : Int) ≤ ((t152.length : Int) : Int) := of_decide_eq_true (by first | (with_reducible assumption) | assumption)
                          obtain ⟨i037, hi037, _, hsz37, _⟩ := info_parts info40
                          have hroom37 : t152.length ≤ co35 := (Kd.R_reads' HO_11.out).2.1
                          have hC37 : Kd.C k40 _ Ao35 t152.length t152 := (Kd.R_reads' HO_11.out).2.2
                          have hcut37 := cut_to (P := Tryd.prog) 32 40 .i64 Tryd.underlying32 hi037 Ao35 t152.length co35 (t139.length : Int) (of_decide_eq_true (by first | (with_reducible assumption) | assumption)) q37 hroom37
                          have hr37 := Kd.C_take (m := ((t139.length : Int) : Int).toNat) hC37 (by omega)
                          have hy37 : y156.length = ((t139.length : Int) : Int).toNat := (by rw [Ny156.out, List.length_take]; omega)
                          rw [← Ny156.out] at hr37
                          rw [← hy37] at hcut37
                          have HR159 := Aside0.mk hr37
                          have HC159 := Aside0.mk (show y156.length ≤ co35 from by omega)
                          clear hr37 hC37 hroom37 hi037 hsz37
                          have KY37 := Aside0.mk hy37
                          clear hy37
                          have KL37 := Aside0.mk (show ((t139.length : Int) : Int).toNat ≤ t152.length from by omega)
                          replace q37 := eq_true q37
                          go_wp2_with (first | ((with_reducible refine gate_callee (f := 21) rfl ?_); refine goesL_ (some 68) rfl rfl Tryd.func21 (by kernel_rfl) rfl #[.slice Ao36 t139.length co36, .slice Ao35 y156.length co35] rfl (by (try simp only [List.map_toArray, List.map_cons, List.map_nil]); first | done | rfl | (simp only [List.length_drop, List.length_take]; rfl)) ?_; (with_reducible refine (cartoucheref04_Same.calls kj9 _ _ t139 _ _ y156 false _ ?side1 ?side2 ?side3 ?side4 A28.out).mono ?_); (case side1 => repeat (first | exact (Kd.R_reads' HO_9.out).2.2 | (with_reducible refine Kd.C_alloc ?_ _) | (with_reducible refine Kd.C_drewN ?_ _) | (with_reducible refine Kd.C_drew ?_))); (case side2 => exact (Kd.R_reads' HO_9.out).2.1); (case side3 => repeat (first | exact (by repeat (first | (with_reducible exact HR159.out) | (with_reducible refine Kd.C_alloc ?_ _) | (with_reducible refine Kd.C_drewN ?_ _) | (with_reducible refine Kd.C_drew ?_) | exact HR159.out)) | (with_reducible refine Kd.C_alloc ?_ _) | (with_reducible refine Kd.C_drewN ?_ _) | (with_reducible refine Kd.C_drew ?_))); (case side4 => exact HC159.out); rintro e w' ⟨rfl, ⟨nd, rfl⟩⟩; refine ⟨_, rfl, ?_⟩))
                          go_ret
                          exact ⟨by first | rfl | (simp [errW_none, errW_some] <;> rfl) | (simp [*, errW_none, errW_some] <;> rfl), by repeat (first | (with_reducible first | exact HB.out | apply below_alloc | apply pw_below_drewN | apply below_drew1) | exact HB.out)⟩
                      · replace c29 := Bool.eq_false_iff.mpr c29
                        subst c29
                        have H1 : (some false) = some r := by rw [if_neg (show ¬ (false = true) by decide)] at H; exact H
                        clear H
                        have H := H1
                        clear H1
                        obtain rfl := Option.some.inj H
                        obtain ⟨Ao38, co38, eo38⟩ := Kd.R_slice HO_11.out
                        subst eo38
                        obtain ⟨Ao39, co39, eo39⟩ := Kd.R_slice HO_9.out
                        subst eo39
                        have q40 : ((t139.length : Int) : Int) ≤ ((t152.length : Int) : Int) := of_decide_eq_true (by first | (with_reducible assumption) | assumption)
                        obtain ⟨i040, hi040, _, hsz40, _⟩ := info_parts info40
                        have hroom40 : t152.length ≤ co38 := (Kd.R_reads' HO_11.out).2.1
                        have hC40 : Kd.C k40 _ Ao38 t152.length t152 := (Kd.R_reads' HO_11.out).2.2
                        have hcut40 := cut_to (P := Tryd.prog) 32 40 .i64 Tryd.underlying32 hi040 Ao38 t152.length co38 (t139.length : Int) (of_decide_eq_true (by first | (with_reducible assumption) | assumption)) q40 hroom40
                        have hr40 := Kd.C_take (m := ((t139.length : Int) : Int).toNat) hC40 (by omega)
                        have hy40 : y156.length = ((t139.length : Int) : Int).toNat := (by rw [Ny156.out, List.length_take]; omega)
                        rw [← Ny156.out] at hr40
                        rw [← hy40] at hcut40
                        have HR159 := Aside0.mk hr40
                        have HC159 := Aside0.mk (show y156.length ≤ co38 from by omega)
                        clear hr40 hC40 hroom40 hi040 hsz40
                        have KY40 := Aside0.mk hy40
                        clear hy40
                        have KL40 := Aside0.mk (show ((t139.length : Int) : Int).toNat ≤ t152.length from by omega)
                        replace q40 := eq_true q40
                        go_wp2_with (first | ((with_reducible refine gate_callee (f := 21) rfl ?_); refine goesL_ (some 68) rfl rfl Tryd.func21 (by kernel_rfl) rfl #[.slice Ao39 t139.length co39, .slice Ao38 y156.length co38] rfl (by (try simp only [List.map_toArray, List.map_cons, List.map_nil]); first | done | rfl | (simp only [List.length_drop, List.length_take]; rfl)) ?_; (with_reducible refine (cartoucheref04_Same.calls kj9 _ _ t139 _ _ y156 t160 _ ?side1 ?side2 ?side3 ?side4 A28.out).mono ?_); (case side1 => repeat (first | exact (Kd.R_reads' HO_9.out).2.2 | (with_reducible refine Kd.C_alloc ?_ _) | (with_reducible refine Kd.C_drewN ?_ _) | (with_reducible refine Kd.C_drew ?_))); (case side2 => exact (Kd.R_reads' HO_9.out).2.1); (case side3 => repeat (first | exact (by repeat (first | (with_reducible exact HR159.out) | (with_reducible refine Kd.C_alloc ?_ _) | (with_reducible refine Kd.C_drewN ?_ _) | (with_reducible refine Kd.C_drew ?_) | exact HR159.out)) | (with_reducible refine Kd.C_alloc ?_ _) | (with_reducible refine Kd.C_drewN ?_ _) | (with_reducible refine Kd.C_drew ?_))); (case side4 => exact HC159.out); rintro e w' ⟨rfl, ⟨nd, rfl⟩⟩; refine ⟨_, rfl, ?_⟩))
                        go_ret
                        exact ⟨by first | rfl | (simp [errW_none, errW_some] <;> rfl) | (simp [*, errW_none, errW_some] <;> rfl), by repeat (first | (with_reducible first | exact HB.out | apply below_alloc | apply pw_below_drewN | apply below_drew1) | exact HB.out)⟩
                    · rw [if_neg c27] at H
                      exact absurd H (by simp)
                  · rw [if_neg c26] at H
                    exact absurd H (by simp)
                · rw [if_neg c25] at H
                  have c25b0 : ((t152.length : Int) == (wrap64 ((t139.length : Int) + 1))) = false := beq_eq_false_iff_ne.mpr c25
                  have c25b1 : ((t152.length : Int) != (wrap64 ((t139.length : Int) + 1))) = true := bne_iff_ne.mpr c25
                  obtain rfl := Option.some.inj H
                  obtain ⟨Ao41, co41, eo41⟩ := Kd.R_slice HO_11.out
                  subst eo41
                  obtain ⟨Ao42, co42, eo42⟩ := Kd.R_slice HO_9.out
                  subst eo42
                  go_wp2
                  go_ret
                  exact ⟨by first | rfl | (simp [errW_none, errW_some] <;> rfl) | (simp [*, errW_none, errW_some] <;> rfl), by repeat (first | (with_reducible first | exact HB.out | apply below_alloc | apply pw_below_drewN | apply below_drew1) | exact HB.out)⟩
              · rw [if_neg c24] at H
                have c24b0 : (t153 == 0) = false := beq_eq_false_iff_ne.mpr c24
                have c24b1 : (t153 != 0) = true := bne_iff_ne.mpr c24
                obtain rfl := Option.some.inj H
                go_wp2
                go_ret
                exact ⟨by first | rfl | (simp [errW_none, errW_some] <;> rfl) | (simp [*, errW_none, errW_some] <;> rfl), by repeat (first | (with_reducible first | exact HB.out | apply below_alloc | apply pw_below_drewN | apply below_drew1) | exact HB.out)⟩
            · rw [if_neg c23] at H
              have c23b0 : (t140 == 0) = false := beq_eq_false_iff_ne.mpr c23
              have c23b1 : (t140 != 0) = true := bne_iff_ne.mpr c23
              obtain rfl := Option.some.inj H
              go_wp2
              go_ret
              exact ⟨by first | rfl | (simp [errW_none, errW_some] <;> rfl) | (simp [*, errW_none, errW_some] <;> rfl), by repeat (first | (with_reducible first | exact HB.out | apply below_alloc | apply pw_below_drewN | apply below_drew1) | exact HB.out)⟩
    · rw [if_neg c8] at H
      exact absurd H (by simp)
  · rw [if_neg c7] at H
    exact absurd H (by simp)

end Go.Proofs.YtnigomohlgcojaaDoor.R
