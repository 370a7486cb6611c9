/- The law LeanHolds, of every history, every row of places, every edge: an edge that proofs of the history's own events show holds in that history; under no condition but that the tables start as the text of the program lays them. -/
import Derived.Test.YtjlpjpjodhkpdaaGreatDoorFrameM
import Derived.Test.YtjlpjpjodhkpdaaGreatDoorHo5
import Derived.SizedLaws
set_option linter.unusedVariables false
set_option linter.unusedSimpArgs false
namespace Go.Proofs.YtjlpjpjodhkpdaaGreatDoor.leanHolds
open Go.ChangeShapes Go.WideShapes Go.ChangeAt Go.RowKit Go.ChangeMaps Go.Proofs.YtjlpjpjodhkpdaaGreatDoorW.PrintWords

set_option maxRecDepth 100000 in
theorem contract (H : Type) (enc : TypeId × Value → H) (W : World) (base : Nat) (args : Array Value) (ds gs : List (DataW H)) (before : List MemPlace)
    (hval : ∀ (j : Nat) t v, Tryz.f7.params[j]? = some t → args[j]? = some v → Value.okWide Tryz.prog W .any base t v)
    (hW : DataW.Whole enc Tryz.prog Tryz.f7.params.toList Rows.leanHoldsSpec.vars false W args.toList ds gs before)
    (hw : (DataW.weightsEach Tryz.prog (Tryz.f7.params.toList ++ []) (ds ++ gs)).all (· ≤ reachBytes) = true) (hL : laidMetH Tryz.prog Rows.leanHoldsRow.laid W) :
    Calls Tryz.prog 7 args W fun e W' => ∃ v, e = .returned v ∧ Rows.leanHoldsSpec.post enc Tryz.prog Tryz.f7 false true false false W args v W' := by
  have hW' := hW
  obtain ⟨p, q, hA0, hV, rfl, hfz, hnd⟩ := hW
  have hA : DataW.TrodAll enc Tryz.prog W 0 (fun _ => true) true Tryz.f7.params.toList args.toList ds p := hA0
  rw [Tryz.params7] at hA hval hw
  obtain ⟨v0, vs0, d0, ds0, p0, q0, hargs, rfl, rfl, h0, r0⟩ := trodAll_cons hA
  obtain ⟨v1, vs1, d1, ds1, p1, q1, rfl, rfl, rfl, h1, r1⟩ := trodAll_cons r0
  obtain ⟨v2, vs2, d2, ds2, p2, q2, rfl, rfl, rfl, h2, r2⟩ := trodAll_cons r1
  obtain ⟨rfl, rfl, rfl⟩ := trodAll_nil r2
  obtain rfl : args = #[v0, v1, v2] := by cases args; simp_all
  obtain ⟨rfl, rfl⟩ := trodVars_none hV
  have hs0 : (d0.weights Tryz.prog 42).all (· ≤ reachBytes) = true := List.all_eq_true.2 fun m hm => List.all_eq_true.1 hw m (DataW.weights_mem_each (j := 0) rfl rfl m hm)
  obtain ⟨yA0, yl0, yc0, rfl⟩ := okWide_slice Tryz.underlying42 (hval 0 42 v0 rfl rfl)
  obtain ⟨fu0, hf0⟩ := h0
  obtain ⟨x0, hk0, b0⟩ := (opens_slice (by_ := 48) Tryz.underlying42 (opens_iso (f := fun x : Q.S53 => (x.f0, x.f1, x.f2, x.f3)) (fun a => ⟨a.1, a.2.1, a.2.2.1, a.2.2.2⟩) (fun _ => rfl) (opens_struct (tot := 4) Tryz.underlying53 (by kernel_rfl) (opens_cons (m := 1) rfl (by kernel_rfl) (opens_int Tryz.underlying3) (opens_cons (m := 1) rfl (by kernel_rfl) (opens_int Tryz.underlying3) (opens_cons (m := 1) rfl (by kernel_rfl) (opens_string Tryz.underlying9) (opens_last rfl (by kernel_rfl) (opens_string Tryz.underlying9))))))) (by kernel_rfl) (by kernel_rfl)).out enc W 0 _ true fu0 _ (d0, p0) hf0 hs0
  obtain ⟨Ax0, cx0, ek0, lx0, gx0⟩ := hk0
  obtain ⟨rfl, rfl, rfl⟩ : Ax0 = yA0 ∧ yl0 = x0.length ∧ cx0 = yc0 := by
    have e : ([.slice yA0 yl0 yc0] : List Value) = [.slice Ax0 x0.length cx0] := ek0
    injection e with e _
    injection e with e1 e2 e3
    exact ⟨e1.symm, e2, e3.symm⟩
  have hs1 : (d1.weights Tryz.prog 22).all (· ≤ reachBytes) = true := List.all_eq_true.2 fun m hm => List.all_eq_true.1 hw m (DataW.weights_mem_each (j := 1) rfl rfl m hm)
  obtain ⟨yA1, yl1, yc1, rfl⟩ := okWide_slice Tryz.underlying22 (hval 1 22 v1 rfl rfl)
  obtain ⟨fu1, hf1⟩ := h1
  obtain ⟨x1, hk1, b1⟩ := (opens_slice (by_ := 8) Tryz.underlying22 (opens_int Tryz.underlying3) (by kernel_rfl) (by kernel_rfl)).out enc W 0 _ true fu1 _ (d1, p1) hf1 hs1
  obtain ⟨Ax1, cx1, ek1, lx1, gx1⟩ := hk1
  obtain ⟨rfl, rfl, rfl⟩ : Ax1 = yA1 ∧ yl1 = x1.length ∧ cx1 = yc1 := by
    have e : ([.slice yA1 yl1 yc1] : List Value) = [.slice Ax1 x1.length cx1] := ek1
    injection e with e _
    injection e with e1 e2 e3
    exact ⟨e1.symm, e2, e3.symm⟩
  have hs2 : (d2.weights Tryz.prog 32).all (· ≤ reachBytes) = true := List.all_eq_true.2 fun m hm => List.all_eq_true.1 hw m (DataW.weights_mem_each (j := 2) rfl rfl m hm)
  obtain ⟨cs2, rfl, _⟩ := okWide_struct Tryz.underlying32 (hval 2 32 v2 rfl rfl)
  obtain ⟨fu2, hf2⟩ := h2
  obtain ⟨⟨x2_0, x2_1, x2_2, x2_3, x2_4⟩, hk2, b2⟩ := (opens_struct (tot := 5) Tryz.underlying32 (by kernel_rfl) (opens_cons (m := 1) rfl (by kernel_rfl) (opens_int Tryz.underlying3) (opens_cons (m := 1) rfl (by kernel_rfl) (opens_int Tryz.underlying3) (opens_cons (m := 1) rfl (by kernel_rfl) (opens_int Tryz.underlying3) (opens_cons (m := 1) rfl (by kernel_rfl) (opens_int Tryz.underlying3) (opens_last rfl (by kernel_rfl) (opens_int Tryz.underlying3))))))).out enc W 0 _ true fu2 _ (d2, p2) hf2 hs2
  obtain ⟨_, _, hq2, rfl, ⟨_, _, rfl, rfl, ⟨_, _, rfl, rfl, ⟨_, _, rfl, rfl, rfl⟩⟩⟩⟩ := hk2
  obtain rfl : cs2 = #[.int .i64 x2_0, .int .i64 x2_1, .int .i64 x2_2, .int .i64 x2_3, .int .i64 x2_4] := Array.toList_inj.1 hq2
  have hT : Tabs W := tabs_of_laid (l := Rows.leanHoldsRow.laid) hL (by simp [Rows.leanHoldsRow]) (by simp [Rows.leanHoldsRow]) (by simp [Rows.leanHoldsRow])
  have hk := LeanHolds_pure x0 x1 x2_0 x2_1 x2_2 x2_3 x2_4 b0 b1 b2
  refine (Q.cartouchelaw15_LeanHolds.calls Ax0 cx0 x0 Ax1 cx1 x1 x2_0 x2_1 x2_2 x2_3 x2_4 true W hT gx0 lx0 gx1 lx1 hk).mono fun e W' ⟨he, hb⟩ => ⟨_, he, ?_⟩
  exact law_post laidOut (by rw [Tryz.params7]; intro t ht; simp at ht; rcases ht with rfl | rfl | rfl <;> exact ⟨by kernel_rfl, of_decide_eq_true (by kernel_rfl)⟩) rfl rfl Tryz.underlying4 rfl hW' hb

def wit : Array Value := #[.slice none 0 0, .slice none 0 0, .agg #[.int .i64 0, .int .i64 0, .int .i64 0, .int .i64 0, .int .i64 0]]
theorem laid_met (os : Os) : laidMet Tryz.prog Rows.leanHoldsRow.laid ((laidWorld os).forCall (fun _ _ => 0) ⟨#[], wit, []⟩).memory :=
  laidMet_of_run' 8 (by kernel_rfl) (by kernel_rfl)
theorem reads (os : Os) {H : Type} (enc : TypeId × Value → H) : ∃ places, DataW.whole enc Tryz.prog ((laidWorld os).forCall (fun _ _ => 0) ⟨#[], wit, []⟩).memory Tryz.f7.params.toList Rows.leanHoldsSpec.vars false wit.toList 8 = some ([.nil, .nil, .agg [.lit (.int .i64 0), .lit (.int .i64 0), .lit (.int .i64 0), .lit (.int .i64 0), .lit (.int .i64 0)]], [], places) :=
  ⟨[], by kernel_rfl⟩
set_option maxRecDepth 100000 in
theorem lifted (os : Os) (started : os.Started) (H : Type) (enc : TypeId × Value → H) (F : Stop.Interp) :
    ReturnsInHanded {} Tryz.checked os 7 .any ((OpenSpec.ofChange Rows.leanHoldsSpec).preRow enc Tryz.prog Tryz.f7 Rows.leanHoldsRow.domain false Rows.leanHoldsRow.laid) (((OpenSpec.ofChange Rows.leanHoldsSpec).at F).post enc Tryz.prog Tryz.f7 false true false false) := by
  obtain ⟨places, hx⟩ := reads os enc
  refine returnsInHanded_of_row (C := Tryz.checked) (s := OpenSpec.ofChange Rows.leanHoldsSpec) own started (by kernel_rfl) Tryz.func7
    (witness_row_at (enc := enc) (C := Tryz.checked) false (laidWorld os) wit rfl (by kernel_rfl) (by kernel_rfl) (by kernel_rfl)
      (OpenSpec.preRow_of_cond 8 hx (by kernel_rfl) (fun k hk => by cases hk) (by kernel_rfl) (laid_met os))) ?_
  intro W base args ds gs before hval hW _ _ hw hL _ _
  exact contract H enc W base args ds gs before hval hW hw hL

theorem said : Rows.LeanHoldsSaid :=
  OpenClaim.holds_of_cond 7 Tryz.f7 rfl rfl rfl rfl rfl rfl rfl ⟨rfl, rfl, rfl, rfl, rfl⟩ rfl rfl rfl rfl rfl (by kernel_rfl) Tryz.func7 (by kernel_rfl)
    (of_decide_eq_true (by kernel_rfl)) (by unfold Func.isWrapper; first | (rw [if_pos (by decide +kernel)]; kernel_rfl) | (rw [if_neg (by decide +kernel)]; exact ⟨rfl, rfl⟩))
    (fun os started H enc _ F => by rw [OpenClaim.pre_eq_preRow]; exact lifted os started H enc F)
theorem plain (f : FuncId) (fn : Func) (hf : Tryz.pinned.checked.prog.funcNamed "cartouche/cartouchelaw15.LeanHolds" = some f) (hfn : Tryz.pinned.checked.prog.funcs[f]? = some fn) :
    false = Tryz.pinned.checked.prog.looks [] ∧ ∀ (j : Nat) t, fn.params[j]? = some t → Tryz.pinned.checked.prog.wantsStandIn t = false := by
  obtain rfl : f = 7 := Option.some.inj ((show Tryz.prog.funcNamed "cartouche/cartouchelaw15.LeanHolds" = some 7 by kernel_rfl).symm.trans hf) |>.symm
  obtain rfl : fn = Tryz.f7 := (Option.some.inj (Tryz.func7.symm.trans hfn)).symm
  refine ⟨by kernel_rfl, fun j t ht => ?_⟩
  rw [Tryz.params7] at ht
  have hm := Array.mem_of_getElem? ht
  simp at hm
  rcases hm with rfl | rfl | rfl
  all_goals exact (show Tryz.prog.wantsStandIn _ = false by kernel_rfl)
theorem card : Rows.LeanHoldsCardSaid :=
  Claim7.holds_tied_plain_at .later [] _ _ _ _ said (fun _ h => by cases h) (by kernel_rfl) (fun _ h => by cases h) leanHolds_row_tie rfl ⟨rfl, rfl⟩ (by kernel_rfl) rfl plain (by kernel_rfl)
#print axioms card
end Go.Proofs.YtjlpjpjodhkpdaaGreatDoor.leanHolds
