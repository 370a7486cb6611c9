/- The law LeanTells, of every certificate, root, bad read and edge: what the program answers on proofs is the document's answer; under no condition but that the tables start as the text of the program lays them. -/
import Derived.Test.YtjlpjpjodhkpdaaGreatDoorFrameM
import Derived.Test.YtjlpjpjodhkpdaaGreatDoorTe
import Derived.SizedLaws
set_option maxRecDepth 100000
set_option linter.unusedVariables false
set_option linter.unusedSimpArgs false
namespace Go.Proofs.YtjlpjpjodhkpdaaGreatDoor.leanTells
open Go.ChangeShapes Go.WideShapes Go.ChangeAt Go.RowKit Go.ChangeMaps Go.Proofs.YtjlpjpjodhkpdaaGreatDoorW.PrintWords
theorem contract (H : Type) (enc : TypeId × Value → H) (W : World) (base : Nat) (args : Array Value) (ds gs : List (DataW H)) (before : List MemPlace)
 (hval : ∀ (j : Nat) t v, Tryz.f3.params[j]? = some t → args[j]? = some v → Value.okWide Tryz.prog W .any base t v)
 (hW : DataW.Whole enc Tryz.prog Tryz.f3.params.toList Rows.leanTellsSpec.vars false W args.toList ds gs before)
 (hw : (DataW.weightsEach Tryz.prog (Tryz.f3.params.toList ++ []) (ds ++ gs)).all (· ≤ reachBytes) = true) (hL : laidMetH Tryz.prog Rows.leanTellsRow.laid W) :
 Calls Tryz.prog 3 args W fun e W' => ∃ v, e = .returned v ∧ Rows.leanTellsSpec.post enc Tryz.prog Tryz.f3 false true false false W args v W' := by
 have hW' := hW
 obtain ⟨p, q, hA0, hV, rfl, hfz, hnd⟩ := hW
 have hA : DataW.TrodAll enc Tryz.prog W 0 (fun _ => true) true Tryz.f3.params.toList args.toList ds p := hA0
 rw [Tryz.params3] at hA hval hw
 obtain ⟨v0, vs0, d0, ds0, p0, q0, hargs, rfl, rfl, h0, r0⟩ := trodAll_cons hA
 obtain ⟨rfl, rfl, rfl⟩ := trodAll_nil r0
 obtain rfl : args = #[v0] := by cases args; simp_all
 obtain ⟨rfl, rfl⟩ := trodVars_none hV
 have hs0 : (d0.weights Tryz.prog 34).all (· ≤ reachBytes) = true := List.all_eq_true.2 fun m hm => List.all_eq_true.1 hw m (DataW.weights_mem_each (j := 0) rfl rfl m hm)
 obtain ⟨cs0, rfl, _⟩ := okWide_struct Tryz.underlying34 (hval 0 34 v0 rfl rfl)
 obtain ⟨fu0, hf0⟩ := h0
 obtain ⟨⟨⟨x0_0_0, x0_0_1, x0_0_2, x0_0_3, x0_0_4, ⟨x0_0_5_0, x0_0_5_1, x0_0_5_2, ⟨x0_0_5_3_0, x0_0_5_3_1, x0_0_5_3_2⟩, x0_0_5_4⟩, x0_0_6⟩, x0_1, ⟨x0_2_0, x0_2_1, x0_2_2⟩, ⟨x0_3_0, x0_3_1, x0_3_2, x0_3_3, x0_3_4⟩⟩, hk0, b0⟩ := (opens_struct (tot := 22) Tryz.underlying34 (by kernel_rfl) (opens_cons (m := 13) rfl (by kernel_rfl) (opens_struct (tot := 13) Tryz.underlying30 (by kernel_rfl) (opens_cons (m := 1) rfl (by kernel_rfl) (opens_string Tryz.underlying9) (opens_cons (m := 1) rfl (by kernel_rfl) (opens_int Tryz.underlying3) (opens_cons (m := 1) rfl (by kernel_rfl) (opens_string Tryz.underlying9) (opens_cons (m := 1) rfl (by kernel_rfl) (opens_string Tryz.underlying9) (opens_cons (m := 1) rfl (by kernel_rfl) (opens_int Tryz.underlying3) (opens_cons (m := 7) rfl (by kernel_rfl) (opens_struct (tot := 7) Tryz.underlying27 (by kernel_rfl) (opens_cons (m := 1) rfl (by kernel_rfl) (opens_int Tryz.underlying3) (opens_cons (m := 1) rfl (by kernel_rfl) (opens_bool Tryz.underlying4) (opens_cons (m := 1) rfl (by kernel_rfl) (opens_slice (by_ := 8) Tryz.underlying22 (opens_int Tryz.underlying3) (by kernel_rfl) (by kernel_rfl)) (opens_cons (m := 3) rfl (by kernel_rfl) (opens_struct (tot := 3) Tryz.underlying24 (by kernel_rfl) (opens_cons (m := 1) rfl (by kernel_rfl) (opens_int Tryz.underlying3) (opens_cons (m := 1) rfl (by kernel_rfl) (opens_int Tryz.underlying3) (opens_last rfl (by kernel_rfl) (opens_int Tryz.underlying3))))) (opens_last rfl (by kernel_rfl) (opens_slice (by_ := 40) Tryz.underlying25 (opens_iso (f := fun x : Q.S32 => (x.f0, x.f1, x.f2, x.f3, x.f4)) (fun a => ⟨a.1, a.2.1, a.2.2.1, a.2.2.2.1, a.2.2.2.2⟩) (fun _ => rfl) (opens_struct (tot := 5) Tryz.underlying32 (by kernel_rfl) (opens_cons (m := 1) rfl (by kernel_rfl) (opens_int Tryz.underlying3) (opens_cons (m := 1) rfl (by kernel_rfl) (opens_int Tryz.underlying3) (opens_cons (m := 1) rfl (by kernel_rfl) (opens_int Tryz.underlying3) (opens_cons (m := 1) rfl (by kernel_rfl) (opens_int Tryz.underlying3) (opens_last rfl (by kernel_rfl) (opens_int Tryz.underlying3)))))))) (by kernel_rfl) (by kernel_rfl)))))))) (opens_last rfl (by kernel_rfl) (opens_slice (by_ := 80) Tryz.underlying28 (opens_iso (f := fun x : Q.S55 => (x.f0, x.f1, x.f2)) (fun a => ⟨a.1, a.2.1, a.2.2⟩) (fun _ => rfl) (opens_struct (tot := 6) Tryz.underlying55 (by kernel_rfl) (opens_cons (m := 1) rfl (by kernel_rfl) (opens_int Tryz.underlying3) (opens_cons (m := 4) rfl (by kernel_rfl) (opens_iso (f := fun x : Q.S53 => (x.f0, x.f1, x.f2, x.f3)) (fun a => ⟨a.1, a.2.1, a.2.2.1, a.2.2.2⟩) (fun _ => rfl) (opens_struct (tot := 4) Tryz.underlying53 (by kernel_rfl) (opens_cons (m := 1) rfl (by kernel_rfl) (opens_int Tryz.underlying3) (opens_cons (m := 1) rfl (by kernel_rfl) (opens_int Tryz.underlying3) (opens_cons (m := 1) rfl (by kernel_rfl) (opens_string Tryz.underlying9) (opens_last rfl (by kernel_rfl) (opens_string Tryz.underlying9))))))) (opens_last rfl (by kernel_rfl) (opens_slice (by_ := 16) Tryz.underlying45 (opens_string Tryz.underlying9) (by kernel_rfl) (by kernel_rfl))))))) (by kernel_rfl) (by kernel_rfl)))))))))) (opens_cons (m := 1) rfl (by kernel_rfl) (opens_string Tryz.underlying9) (opens_cons (m := 3) rfl (by kernel_rfl) (opens_struct (tot := 3) Tryz.underlying24 (by kernel_rfl) (opens_cons (m := 1) rfl (by kernel_rfl) (opens_int Tryz.underlying3) (opens_cons (m := 1) rfl (by kernel_rfl) (opens_int Tryz.underlying3) (opens_last rfl (by kernel_rfl) (opens_int Tryz.underlying3))))) (opens_last rfl (by kernel_rfl) (opens_struct (tot := 5) Tryz.underlying32 (by kernel_rfl) (opens_cons (m := 1) rfl (by kernel_rfl) (opens_int Tryz.underlying3) (opens_cons (m := 1) rfl (by kernel_rfl) (opens_int Tryz.underlying3) (opens_cons (m := 1) rfl (by kernel_rfl) (opens_int Tryz.underlying3) (opens_cons (m := 1) rfl (by kernel_rfl) (opens_int Tryz.underlying3) (opens_last rfl (by kernel_rfl) (opens_int Tryz.underlying3)))))))))))).out enc W 0 _ true fu0 _ (d0, p0) hf0 hs0
 obtain ⟨_, _, hq0, ⟨_, _, rfl, rfl, ⟨_, _, rfl, rfl, ⟨_, _, rfl, rfl, ⟨_, _, rfl, rfl, ⟨_, _, rfl, rfl, ⟨_, _, rfl, ⟨_, _, rfl, rfl, ⟨_, _, rfl, rfl, ⟨_, _, rfl, ⟨Ax0_0_5_2, cx0_0_5_2, rfl, lx0_0_5_2, gx0_0_5_2⟩, ⟨_, _, rfl, ⟨_, _, rfl, rfl, ⟨_, _, rfl, rfl, rfl⟩⟩, ⟨Ax0_0_5_4, cx0_0_5_4, rfl, lx0_0_5_4, gx0_0_5_4⟩⟩⟩⟩⟩, ⟨Ax0_0_6, cx0_0_6, rfl, lx0_0_6, gx0_0_6⟩⟩⟩⟩⟩⟩⟩, ⟨_, _, rfl, rfl, ⟨_, _, rfl, ⟨_, _, rfl, rfl, ⟨_, _, rfl, rfl, rfl⟩⟩, ⟨_, _, rfl, rfl, ⟨_, _, rfl, rfl, ⟨_, _, rfl, rfl, ⟨_, _, rfl, rfl, rfl⟩⟩⟩⟩⟩⟩⟩ := hk0
 obtain rfl : cs0 = #[.string x0_0_0, .int .i64 x0_0_1, .string x0_0_2, .string x0_0_3, .int .i64 x0_0_4, .int .i64 x0_0_5_0, .bool x0_0_5_1, .slice Ax0_0_5_2 x0_0_5_2.length cx0_0_5_2, .int .i64 x0_0_5_3_0, .int .i64 x0_0_5_3_1, .int .i64 x0_0_5_3_2, .slice Ax0_0_5_4 x0_0_5_4.length cx0_0_5_4, .slice Ax0_0_6 x0_0_6.length cx0_0_6, .string x0_1, .int .i64 x0_2_0, .int .i64 x0_2_1, .int .i64 x0_2_2, .int .i64 x0_3_0, .int .i64 x0_3_1, .int .i64 x0_3_2, .int .i64 x0_3_3, .int .i64 x0_3_4] := Array.toList_inj.1 hq0
 have hT : Tabs W := tabs_of_laid (l := Rows.leanTellsRow.laid) hL (by simp [Rows.leanTellsRow]) (by simp [Rows.leanTellsRow]) (by simp [Rows.leanTellsRow])
 have hk := LeanTells_pure x0_0_0 x0_0_1 x0_0_2 x0_0_3 x0_0_4 x0_0_5_0 x0_0_5_1 x0_0_5_2 x0_0_5_3_0 x0_0_5_3_1 x0_0_5_3_2 x0_0_5_4 x0_0_6 x0_1 x0_2_0 x0_2_1 x0_2_2 x0_3_0 x0_3_1 x0_3_2 x0_3_3 x0_3_4 b0
 refine (Q.cartouchelaw15_LeanTells.calls x0_0_0 x0_0_1 x0_0_2 x0_0_3 x0_0_4 x0_0_5_0 x0_0_5_1 Ax0_0_5_2 cx0_0_5_2 x0_0_5_2 x0_0_5_3_0 x0_0_5_3_1 x0_0_5_3_2 Ax0_0_5_4 cx0_0_5_4 x0_0_5_4 Ax0_0_6 cx0_0_6 x0_0_6 x0_1 x0_2_0 x0_2_1 x0_2_2 x0_3_0 x0_3_1 x0_3_2 x0_3_3 x0_3_4 true W hT gx0_0_5_2 lx0_0_5_2 gx0_0_5_4 lx0_0_5_4 gx0_0_6 lx0_0_6 hk).mono fun e W' ⟨he, hb⟩ => ⟨_, he, ?_⟩
 exact law_post laidOut (by rw [Tryz.params3]; intro t ht; simp at ht; subst ht <;> exact ⟨by kernel_rfl, of_decide_eq_true (by kernel_rfl)⟩) rfl rfl Tryz.underlying4 rfl hW' hb
def wit : Array Value := #[.agg #[.string .empty, .int .i64 0, .string .empty, .string .empty, .int .i64 0, .int .i64 0, .bool false, .slice none 0 0, .int .i64 0, .int .i64 0, .int .i64 0, .slice none 0 0, .slice none 0 0, .string .empty, .int .i64 0, .int .i64 0, .int .i64 0, .int .i64 0, .int .i64 0, .int .i64 0, .int .i64 0, .int .i64 0]]
theorem laid_met (os : Os) : laidMet Tryz.prog Rows.leanTellsRow.laid ((laidWorld os).forCall (fun _ _ => 0) ⟨#[], wit, []⟩).memory :=
 laidMet_of_run' 8 (by kernel_rfl) (by kernel_rfl)
theorem reads (os : Os) {H : Type} (enc : TypeId × Value → H) : ∃ places, DataW.whole enc Tryz.prog ((laidWorld os).forCall (fun _ _ => 0) ⟨#[], wit, []⟩).memory Tryz.f3.params.toList Rows.leanTellsSpec.vars false wit.toList 8 = some ([.agg [.agg [.lit (.string []), .lit (.int .i64 0), .lit (.string []), .lit (.string []), .lit (.int .i64 0), .agg [.lit (.int .i64 0), .lit (.bool false), .nil, .agg [.lit (.int .i64 0), .lit (.int .i64 0), .lit (.int .i64 0)], .nil], .nil], .lit (.string []), .agg [.lit (.int .i64 0), .lit (.int .i64 0), .lit (.int .i64 0)], .agg [.lit (.int .i64 0), .lit (.int .i64 0), .lit (.int .i64 0), .lit (.int .i64 0), .lit (.int .i64 0)]]], [], places) :=
 ⟨[], by kernel_rfl⟩
theorem lifted (os : Os) (started : os.Started) (H : Type) (enc : TypeId × Value → H) (F : Stop.Interp) :
 ReturnsInHanded {} Tryz.checked os 3 .any ((OpenSpec.ofChange Rows.leanTellsSpec).preRow enc Tryz.prog Tryz.f3 Rows.leanTellsRow.domain false Rows.leanTellsRow.laid) (((OpenSpec.ofChange Rows.leanTellsSpec).at F).post enc Tryz.prog Tryz.f3 false true false false) := by
 obtain ⟨places, hx⟩ := reads os enc
 refine returnsInHanded_of_row (C := Tryz.checked) (s := OpenSpec.ofChange Rows.leanTellsSpec) own started (by kernel_rfl) Tryz.func3
  (witness_row_at (enc := enc) (C := Tryz.checked) false (laidWorld os) wit rfl (by kernel_rfl) (by kernel_rfl) (by kernel_rfl)
    (OpenSpec.preRow_of_cond 8 hx (by kernel_rfl) (fun k hk => by cases hk) (by kernel_rfl) (laid_met os))) ?_
 intro W base args ds gs before hval hW _ _ hw hL _ _
 exact contract H enc W base args ds gs before hval hW hw hL
theorem said : Rows.LeanTellsSaid :=
 OpenClaim.holds_of_cond 3 Tryz.f3 rfl rfl rfl rfl rfl rfl rfl ⟨rfl, rfl, rfl, rfl, rfl⟩ rfl rfl rfl rfl rfl (by kernel_rfl) Tryz.func3 (by kernel_rfl)
  (of_decide_eq_true (by kernel_rfl)) (by unfold Func.isWrapper; first | (rw [if_pos (by decide +kernel)]; kernel_rfl) | (rw [if_neg (by decide +kernel)]; exact ⟨rfl, rfl⟩))
  (fun os started H enc _ F => by rw [OpenClaim.pre_eq_preRow]; exact lifted os started H enc F)
theorem plain (f : FuncId) (fn : Func) (hf : Tryz.pinned.checked.prog.funcNamed "cartouche/cartouchelaw15.LeanTells" = some f) (hfn : Tryz.pinned.checked.prog.funcs[f]? = some fn) :
 false = Tryz.pinned.checked.prog.looks [] ∧ ∀ (j : Nat) t, fn.params[j]? = some t → Tryz.pinned.checked.prog.wantsStandIn t = false := by
 obtain rfl : f = 3 := Option.some.inj ((show Tryz.prog.funcNamed "cartouche/cartouchelaw15.LeanTells" = some 3 by kernel_rfl).symm.trans hf) |>.symm
 obtain rfl : fn = Tryz.f3 := (Option.some.inj (Tryz.func3.symm.trans hfn)).symm
 refine ⟨by kernel_rfl, fun j t ht => ?_⟩
 rw [Tryz.params3] at ht
 have hm := Array.mem_of_getElem? ht
 simp at hm
 subst hm
 all_goals exact (show Tryz.prog.wantsStandIn _ = false by kernel_rfl)
theorem card : Rows.LeanTellsCardSaid :=
 Claim7.holds_tied_plain_at .later [] _ _ _ _ said (fun _ h => by cases h) (by kernel_rfl) (fun _ h => by cases h) leanTells_row_tie rfl ⟨rfl, rfl⟩ (by kernel_rfl) rfl plain (by kernel_rfl)
#print axioms card
end Go.Proofs.YtjlpjpjodhkpdaaGreatDoor.leanTells
