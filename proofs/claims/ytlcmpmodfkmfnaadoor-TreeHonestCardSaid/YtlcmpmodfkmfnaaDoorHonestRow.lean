/- The law TreeHonest, of every proofs, every rows: what is given away are always two unlike texts of one sum; under no condition but that the tables start as the text of the program lays them. -/
import Derived.Test.YtlcmpmodfkmfnaaDoorFrameM
import Derived.Test.YtlcmpmodfkmfnaaDoorTreeHonestL
import Derived.SizedLaws
set_option linter.unusedVariables false
set_option linter.unusedSimpArgs false
namespace Go.Proofs.YtlcmpmodfkmfnaaDoor.treeHonest
open Go.ChangeShapes Go.WideShapes Go.ChangeAt Go.RowKit Go.ChangeMaps Go.Proofs.YtlcmpmodfkmfnaaDoorW.PrintWords

set_option maxRecDepth 100000 in
theorem contract (H : Type) (enc : TypeId × Value → H) (W : World) (base : Nat) (args : Array Value) (ds gs : List (DataW H)) (before : List MemPlace)
    (hval : ∀ (j : Nat) t v, Tryd.f11.params[j]? = some t → args[j]? = some v → Value.okWide Tryd.prog W .any base t v)
    (hW : DataW.Whole enc Tryd.prog Tryd.f11.params.toList Rows.treeHonestSpec.vars false W args.toList ds gs before)
    (hw : (DataW.weightsEach Tryd.prog (Tryd.f11.params.toList ++ []) (ds ++ gs)).all (· ≤ reachBytes) = true) (hL : laidMetH Tryd.prog Rows.treeHonestRow.laid W) :
    Calls Tryd.prog 11 args W fun e W' => ∃ v, e = .returned v ∧ Rows.treeHonestSpec.post enc Tryd.prog Tryd.f11 false true false false W args v W' := by
  have hW' := hW
  obtain ⟨p, q, hA0, hV, rfl, hfz, hnd⟩ := hW
  have hA : DataW.TrodAll enc Tryd.prog W 0 (fun _ => true) true Tryd.f11.params.toList args.toList ds p := hA0
  rw [Tryd.params11] at hA hval hw
  obtain ⟨v0, vs0, d0, ds0, p0, q0, hargs, rfl, rfl, h0, r0⟩ := trodAll_cons hA
  obtain ⟨rfl, rfl, rfl⟩ := trodAll_nil r0
  obtain rfl : args = #[v0] := by cases args; simp_all
  obtain ⟨rfl, rfl⟩ := trodVars_none hV
  have hs0 : (d0.weights Tryd.prog 58).all (· ≤ reachBytes) = true := List.all_eq_true.2 fun m hm => List.all_eq_true.1 hw m (DataW.weights_mem_each (j := 0) rfl rfl m hm)
  obtain ⟨cs0, rfl, _⟩ := okWide_struct Tryd.underlying58 (hval 0 58 v0 rfl rfl)
  obtain ⟨fu0, hf0⟩ := h0
  obtain ⟨⟨x0_0, x0_1, x0_2, x0_3, x0_4, x0_5, x0_6, x0_7⟩, hk0, b0⟩ := (opens_struct (tot := 8) Tryd.underlying58 (by kernel_rfl) (opens_cons (m := 1) rfl (by kernel_rfl) (opens_int Tryd.underlying3) (opens_cons (m := 1) rfl (by kernel_rfl) (opens_int Tryd.underlying3) (opens_cons (m := 1) rfl (by kernel_rfl) (opens_string Tryd.underlying9) (opens_cons (m := 1) rfl (by kernel_rfl) (opens_slice Tryd.underlying22 (opens_string Tryd.underlying9) (by kernel_rfl) (by kernel_rfl)) (opens_cons (m := 1) rfl (by kernel_rfl) (opens_string Tryd.underlying9) (opens_cons (m := 1) rfl (by kernel_rfl) (opens_slice Tryd.underlying22 (opens_string Tryd.underlying9) (by kernel_rfl) (by kernel_rfl)) (opens_cons (m := 1) rfl (by kernel_rfl) (opens_slice Tryd.underlying22 (opens_string Tryd.underlying9) (by kernel_rfl) (by kernel_rfl)) (opens_last rfl (by kernel_rfl) (opens_slice Tryd.underlying22 (opens_string Tryd.underlying9) (by kernel_rfl) (by kernel_rfl))))))))))).out enc W 0 _ true fu0 _ (d0, p0) hf0 hs0
  obtain ⟨_, _, hq0, rfl, ⟨_, _, rfl, rfl, ⟨_, _, rfl, rfl, ⟨_, _, rfl, ⟨Ax0_3, cx0_3, rfl, lx0_3, gx0_3⟩, ⟨_, _, rfl, rfl, ⟨_, _, rfl, ⟨Ax0_5, cx0_5, rfl, lx0_5, gx0_5⟩, ⟨_, _, rfl, ⟨Ax0_6, cx0_6, rfl, lx0_6, gx0_6⟩, ⟨Ax0_7, cx0_7, rfl, lx0_7, gx0_7⟩⟩⟩⟩⟩⟩⟩⟩ := hk0
  obtain rfl : cs0 = #[.int .i64 x0_0, .int .i64 x0_1, .string x0_2, .slice Ax0_3 x0_3.length cx0_3, .string x0_4, .slice Ax0_5 x0_5.length cx0_5, .slice Ax0_6 x0_6.length cx0_6, .slice Ax0_7 x0_7.length cx0_7] := Array.toList_inj.1 hq0
  have hT : Tabs W := tabs_of_laid (l := Rows.treeHonestRow.laid) hL (by simp [Rows.treeHonestRow]) (by simp [Rows.treeHonestRow]) (by simp [Rows.treeHonestRow])
  obtain ⟨k, hk⟩ := TreeHonest_pure x0_0 x0_1 x0_2 x0_3 x0_4 x0_5 x0_6 x0_7 b0
  refine (Q.cartouchelaw03_TreeHonest.calls k x0_0 x0_1 x0_2 Ax0_3 cx0_3 x0_3 x0_4 Ax0_5 cx0_5 x0_5 Ax0_6 cx0_6 x0_6 Ax0_7 cx0_7 x0_7 true W hT gx0_3 lx0_3 gx0_5 lx0_5 gx0_6 lx0_6 gx0_7 lx0_7 hk).mono fun e W' ⟨he, hb⟩ => ⟨_, he, ?_⟩
  exact law_post laidOut (by rw [Tryd.params11]; intro t ht; simp at ht; subst ht <;> exact ⟨by kernel_rfl, of_decide_eq_true (by kernel_rfl)⟩) rfl rfl Tryd.underlying4 rfl hW' hb

def wit : Array Value := #[.agg #[.int .i64 0, .int .i64 0, .string .empty, .slice none 0 0, .string .empty, .slice none 0 0, .slice none 0 0, .slice none 0 0]]
theorem laid_met (os : Os) : laidMet Tryd.prog Rows.treeHonestRow.laid ((laidWorld os).forCall (fun _ _ => 0) ⟨#[], wit, []⟩).memory :=
  laidMet_of_run' 8 (by kernel_rfl) (by kernel_rfl)
theorem reads (os : Os) {H : Type} (enc : TypeId × Value → H) : ∃ places, DataW.whole enc Tryd.prog ((laidWorld os).forCall (fun _ _ => 0) ⟨#[], wit, []⟩).memory Tryd.f11.params.toList Rows.treeHonestSpec.vars false wit.toList 8 = some ([.agg [.lit (.int .i64 0), .lit (.int .i64 0), .lit (.string []), .nil, .lit (.string []), .nil, .nil, .nil]], [], places) :=
  ⟨[], by kernel_rfl⟩
set_option maxRecDepth 100000 in
theorem lifted (os : Os) (started : os.Started) (H : Type) (enc : TypeId × Value → H) (F : Stop.Interp) :
    ReturnsInHanded {} Tryd.checked os 11 .any ((OpenSpec.ofChange Rows.treeHonestSpec).preRow enc Tryd.prog Tryd.f11 Rows.treeHonestRow.domain false Rows.treeHonestRow.laid) (((OpenSpec.ofChange Rows.treeHonestSpec).at F).post enc Tryd.prog Tryd.f11 false true false false) := by
  obtain ⟨places, hx⟩ := reads os enc
  refine returnsInHanded_of_row (C := Tryd.checked) (s := OpenSpec.ofChange Rows.treeHonestSpec) own started (by kernel_rfl) Tryd.func11
    (witness_row_at (enc := enc) (C := Tryd.checked) false (laidWorld os) wit rfl (by kernel_rfl) (by kernel_rfl) (by kernel_rfl)
      (OpenSpec.preRow_of_cond 8 hx (by kernel_rfl) (fun k hk => by cases hk) (by kernel_rfl) (laid_met os))) ?_
  intro W base args ds gs before hval hW _ _ hw hL _ _
  exact contract H enc W base args ds gs before hval hW hw hL

theorem said : Rows.TreeHonestSaid :=
  OpenClaim.holds_of_cond 11 Tryd.f11 rfl rfl rfl rfl rfl rfl rfl ⟨rfl, rfl, rfl, rfl, rfl⟩ rfl rfl rfl rfl rfl (by kernel_rfl) Tryd.func11 (by kernel_rfl)
    (of_decide_eq_true (by kernel_rfl)) (by unfold Func.isWrapper; first | (rw [if_pos (by decide +kernel)]; kernel_rfl) | (rw [if_neg (by decide +kernel)]; exact ⟨rfl, rfl⟩))
    (fun os started H enc _ F => by rw [OpenClaim.pre_eq_preRow]; exact lifted os started H enc F)
theorem plain (f : FuncId) (fn : Func) (hf : Tryd.pinned.checked.prog.funcNamed "cartouche/cartouchelaw03.TreeHonest" = some f) (hfn : Tryd.pinned.checked.prog.funcs[f]? = some fn) :
    false = Tryd.pinned.checked.prog.looks [] ∧ ∀ (j : Nat) t, fn.params[j]? = some t → Tryd.pinned.checked.prog.wantsStandIn t = false := by
  obtain rfl : f = 11 := Option.some.inj ((show Tryd.prog.funcNamed "cartouche/cartouchelaw03.TreeHonest" = some 11 by kernel_rfl).symm.trans hf) |>.symm
  obtain rfl : fn = Tryd.f11 := (Option.some.inj (Tryd.func11.symm.trans hfn)).symm
  refine ⟨by kernel_rfl, fun j t ht => ?_⟩
  rw [Tryd.params11] at ht
  have hm := Array.mem_of_getElem? ht
  simp at hm
  subst hm
  all_goals exact (show Tryd.prog.wantsStandIn _ = false by kernel_rfl)
theorem card : Rows.TreeHonestCardSaid :=
  Claim7.holds_tied_plain_at .later [] _ _ _ _ said (fun _ h => by cases h) (by kernel_rfl) (fun _ h => by cases h) treeHonest_row_tie rfl ⟨rfl, rfl⟩ (by kernel_rfl) rfl plain (by kernel_rfl)
#print axioms card
end Go.Proofs.YtlcmpmodfkmfnaaDoor.treeHonest
