/- The law RedactTags, of every seed, every texts, every event: tags, and an event with tags, are as the document says; under no condition but that the tables start as the text of the program lays them. -/
import Derived.Test.YtbckobokiioeaaaDoorLaid7
import Derived.Test.YtbckobokiioeaaaDoorRedTagsL
import Derived.SizedLaws
set_option linter.unusedVariables false
set_option linter.unusedSimpArgs false
namespace Go.Proofs.YtbckobokiioeaaaDoor.redactTags
open Go.ChangeShapes Go.WideShapes Go.ChangeAt Go.RowKit Go.ChangeMaps Go.Proofs.YtbckobokiioeaaaDoorW.PrintWords

set_option maxRecDepth 100000 in
theorem contract (H : Type) (enc : TypeId × Value → H) (W : World) (base : Nat) (args : Array Value) (ds gs : List (DataW H)) (before : List MemPlace)
    (hval : ∀ (j : Nat) t v, Tryd.f5.params[j]? = some t → args[j]? = some v → Value.okWide Tryd.prog W .any base t v)
    (hW : DataW.Whole enc Tryd.prog Tryd.f5.params.toList Rows.redactTagsSpec.vars false W args.toList ds gs before)
    (hw : (DataW.weightsEach Tryd.prog (Tryd.f5.params.toList ++ []) (ds ++ gs)).all (· ≤ reachBytes) = true) (hL : laidMetH Tryd.prog Rows.redactTagsRow.laid W) :
    Calls Tryd.prog 5 args W fun e W' => ∃ v, e = .returned v ∧ Rows.redactTagsSpec.post enc Tryd.prog Tryd.f5 false true false false W args v W' := by
  have hW' := hW
  obtain ⟨p, q, hA0, hV, rfl, hfz, hnd⟩ := hW
  have hA : DataW.TrodAll enc Tryd.prog W 0 (fun _ => true) true Tryd.f5.params.toList args.toList ds p := hA0
  rw [Tryd.params5] at hA hval hw
  obtain ⟨v0, vs0, d0, ds0, p0, q0, hargs, rfl, rfl, h0, r0⟩ := trodAll_cons hA
  obtain ⟨rfl, rfl, rfl⟩ := trodAll_nil r0
  obtain rfl : args = #[v0] := by cases args; simp_all
  obtain ⟨rfl, rfl⟩ := trodVars_none hV
  have hs0 : (d0.weights Tryd.prog 32).all (· ≤ reachBytes) = true := List.all_eq_true.2 fun m hm => List.all_eq_true.1 hw m (DataW.weights_mem_each (j := 0) rfl rfl m hm)
  obtain ⟨cs0, rfl, _⟩ := okWide_struct Tryd.underlying32 (hval 0 32 v0 rfl rfl)
  obtain ⟨fu0, hf0⟩ := h0
  obtain ⟨⟨x0_0, x0_1, x0_2, ⟨x0_3_0, x0_3_1, x0_3_2, x0_3_3⟩⟩, hk0, b0⟩ := (opens_struct (tot := 7) Tryd.underlying32 (by kernel_rfl) (opens_cons (m := 1) rfl (by kernel_rfl) (opens_string Tryd.underlying9) (opens_cons (m := 1) rfl (by kernel_rfl) (opens_string Tryd.underlying9) (opens_cons (m := 1) rfl (by kernel_rfl) (opens_string Tryd.underlying9) (opens_last rfl (by kernel_rfl) (opens_struct (tot := 4) Tryd.underlying26 (by kernel_rfl) (opens_cons (m := 1) rfl (by kernel_rfl) (opens_int Tryd.underlying3) (opens_cons (m := 1) rfl (by kernel_rfl) (opens_int Tryd.underlying3) (opens_cons (m := 1) rfl (by kernel_rfl) (opens_string Tryd.underlying9) (opens_last rfl (by kernel_rfl) (opens_string Tryd.underlying9))))))))))).out enc W 0 _ true fu0 _ (d0, p0) hf0 hs0
  obtain ⟨_, _, hq0, rfl, ⟨_, _, rfl, rfl, ⟨_, _, rfl, rfl, ⟨_, _, rfl, rfl, ⟨_, _, rfl, rfl, ⟨_, _, rfl, rfl, rfl⟩⟩⟩⟩⟩⟩ := hk0
  obtain rfl : cs0 = #[.string x0_0, .string x0_1, .string x0_2, .int .i64 x0_3_0, .int .i64 x0_3_1, .string x0_3_2, .string x0_3_3] := Array.toList_inj.1 hq0
  have hT : Tabs W := tabs_of_laid (l := Rows.redactTagsRow.laid) hL (by simp [Rows.redactTagsRow]) (by simp [Rows.redactTagsRow]) (by simp [Rows.redactTagsRow])
  obtain ⟨k, hk⟩ := RedactTags_pure x0_0 x0_1 x0_2 x0_3_0 x0_3_1 x0_3_2 x0_3_3 b0
  refine (R.cartouchelaw07_RedactTags.calls k x0_0 x0_1 x0_2 x0_3_0 x0_3_1 x0_3_2 x0_3_3 true W hT hk).mono fun e W' ⟨he, hb⟩ => ⟨_, he, ?_⟩
  exact law_post laidOut (by rw [Tryd.params5]; intro t ht; simp at ht; subst ht <;> exact ⟨by kernel_rfl, of_decide_eq_true (by kernel_rfl)⟩) rfl rfl Tryd.underlying4 rfl hW' hb

def wit : Array Value := #[.agg #[.string .empty, .string .empty, .string .empty, .int .i64 0, .int .i64 0, .string .empty, .string .empty]]
theorem laid_met (os : Os) : laidMet Tryd.prog Rows.redactTagsRow.laid ((laidWorld7 os).forCall (fun _ _ => 0) ⟨#[], wit, []⟩).memory :=
  laidMet_of_run' 8 (by kernel_rfl) (by kernel_rfl)
theorem reads (os : Os) {H : Type} (enc : TypeId × Value → H) : ∃ places, DataW.whole enc Tryd.prog ((laidWorld7 os).forCall (fun _ _ => 0) ⟨#[], wit, []⟩).memory Tryd.f5.params.toList Rows.redactTagsSpec.vars false wit.toList 8 = some ([.agg [.lit (.string []), .lit (.string []), .lit (.string []), .agg [.lit (.int .i64 0), .lit (.int .i64 0), .lit (.string []), .lit (.string [])]]], [], places) :=
  ⟨[], by kernel_rfl⟩
set_option maxRecDepth 100000 in
theorem lifted (os : Os) (started : os.Started) (H : Type) (enc : TypeId × Value → H) (F : Stop.Interp) :
    ReturnsInHanded {} Tryd.checked os 5 .any ((OpenSpec.ofChange Rows.redactTagsSpec).preRow enc Tryd.prog Tryd.f5 Rows.redactTagsRow.domain false Rows.redactTagsRow.laid) (((OpenSpec.ofChange Rows.redactTagsSpec).at F).post enc Tryd.prog Tryd.f5 false true false false) := by
  obtain ⟨places, hx⟩ := reads os enc
  refine returnsInHanded_of_row (C := Tryd.checked) (s := OpenSpec.ofChange Rows.redactTagsSpec) own started (by kernel_rfl) Tryd.func5
    (witness_row_at (enc := enc) (C := Tryd.checked) false (laidWorld7 os) wit rfl (by kernel_rfl) (by kernel_rfl) (by kernel_rfl)
      (OpenSpec.preRow_of_cond 8 hx (by kernel_rfl) (fun k hk => by cases hk) (by kernel_rfl) (laid_met os))) ?_
  intro W base args ds gs before hval hW _ _ hw hL _ _
  exact contract H enc W base args ds gs before hval hW hw hL

theorem said : Rows.RedactTagsSaid :=
  OpenClaim.holds_of_cond 5 Tryd.f5 rfl rfl rfl rfl rfl rfl rfl ⟨rfl, rfl, rfl, rfl, rfl⟩ rfl rfl rfl rfl rfl (by kernel_rfl) Tryd.func5 (by kernel_rfl)
    (of_decide_eq_true (by kernel_rfl)) (by unfold Func.isWrapper; first | (rw [if_pos (by decide +kernel)]; kernel_rfl) | (rw [if_neg (by decide +kernel)]; exact ⟨rfl, rfl⟩))
    (fun os started H enc _ F => by rw [OpenClaim.pre_eq_preRow]; exact lifted os started H enc F)
theorem plain (f : FuncId) (fn : Func) (hf : Tryd.pinned.checked.prog.funcNamed "cartouche/cartouchelaw07.RedactTags" = some f) (hfn : Tryd.pinned.checked.prog.funcs[f]? = some fn) :
    false = Tryd.pinned.checked.prog.looks [] ∧ ∀ (j : Nat) t, fn.params[j]? = some t → Tryd.pinned.checked.prog.wantsStandIn t = false := by
  obtain rfl : f = 5 := Option.some.inj ((show Tryd.prog.funcNamed "cartouche/cartouchelaw07.RedactTags" = some 5 by kernel_rfl).symm.trans hf) |>.symm
  obtain rfl : fn = Tryd.f5 := (Option.some.inj (Tryd.func5.symm.trans hfn)).symm
  refine ⟨by kernel_rfl, fun j t ht => ?_⟩
  rw [Tryd.params5] at ht
  have hm := Array.mem_of_getElem? ht
  simp at hm
  subst hm
  all_goals exact (show Tryd.prog.wantsStandIn _ = false by kernel_rfl)
theorem card : Rows.RedactTagsCardSaid :=
  Claim7.holds_tied_plain_at .later [] _ _ _ _ said (fun _ h => by cases h) (by kernel_rfl) (fun _ h => by cases h) redactTags_row_tie rfl ⟨rfl, rfl⟩ (by kernel_rfl) rfl plain (by kernel_rfl)
#print axioms card
end Go.Proofs.YtbckobokiioeaaaDoor.redactTags
