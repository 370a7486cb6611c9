/- The law RedactNames, of every history, every two texts: histories that differ by other names alone have one shape; a shape is its own shape; under no condition but that the tables start as the text of the program lays them. -/
import Derived.Test.YtbckobokiioeaaaDoorLaid7
import Derived.Test.YtbckobokiioeaaaDoorRedNamesL
import Derived.SizedLaws
set_option linter.unusedVariables false
set_option linter.unusedSimpArgs false
namespace Go.Proofs.YtbckobokiioeaaaDoor.redactNames
open Go.ChangeShapes Go.WideShapes Go.ChangeAt Go.RowKit Go.ChangeMaps Go.Proofs.YtbckobokiioeaaaDoorW.PrintWords

set_option maxRecDepth 100000 in
theorem contract (H : Type) (enc : TypeId × Value → H) (W : World) (base : Nat) (args : Array Value) (ds gs : List (DataW H)) (before : List MemPlace)
    (hval : ∀ (j : Nat) t v, Tryd.f3.params[j]? = some t → args[j]? = some v → Value.okWide Tryd.prog W .any base t v)
    (hW : DataW.Whole enc Tryd.prog Tryd.f3.params.toList Rows.redactNamesSpec.vars false W args.toList ds gs before)
    (hw : (DataW.weightsEach Tryd.prog (Tryd.f3.params.toList ++ []) (ds ++ gs)).all (· ≤ reachBytes) = true) :
    Calls Tryd.prog 3 args W fun e W' => ∃ v, e = .returned v ∧ Rows.redactNamesSpec.post enc Tryd.prog Tryd.f3 false true false false W args v W' := by
  have hW' := hW
  obtain ⟨p, q, hA0, hV, rfl, hfz, hnd⟩ := hW
  have hA : DataW.TrodAll enc Tryd.prog W 0 (fun _ => true) true Tryd.f3.params.toList args.toList ds p := hA0
  rw [Tryd.params3] at hA hval hw
  obtain ⟨v0, vs0, d0, ds0, p0, q0, hargs, rfl, rfl, h0, r0⟩ := trodAll_cons hA
  obtain ⟨v1, vs1, d1, ds1, p1, q1, rfl, rfl, rfl, h1, r1⟩ := trodAll_cons r0
  obtain ⟨v2, vs2, d2, ds2, p2, q2, rfl, rfl, rfl, h2, r2⟩ := trodAll_cons r1
  obtain ⟨rfl, rfl, rfl⟩ := trodAll_nil r2
  obtain rfl : args = #[v0, v1, v2] := by cases args; simp_all
  obtain ⟨rfl, rfl⟩ := trodVars_none hV
  have hs0 : (d0.weights Tryd.prog 22).all (· ≤ reachBytes) = true := List.all_eq_true.2 fun m hm => List.all_eq_true.1 hw m (DataW.weights_mem_each (j := 0) rfl rfl m hm)
  obtain ⟨yA0, yl0, yc0, rfl⟩ := okWide_slice Tryd.underlying22 (hval 0 22 v0 rfl rfl)
  obtain ⟨fu0, hf0⟩ := h0
  obtain ⟨x0, hk0, b0⟩ := (opens_slice Tryd.underlying22 (opens_iso (f := fun x : Q.S26 => (x.f0, x.f1, x.f2, x.f3)) (fun a => ⟨a.1, a.2.1, a.2.2.1, a.2.2.2⟩) (fun _ => rfl) (opens_struct (tot := 4) Tryd.underlying26 (by kernel_rfl) (opens_cons (m := 1) rfl (by kernel_rfl) (opens_int Tryd.underlying3) (opens_cons (m := 1) rfl (by kernel_rfl) (opens_int Tryd.underlying3) (opens_cons (m := 1) rfl (by kernel_rfl) (opens_string Tryd.underlying9) (opens_last rfl (by kernel_rfl) (opens_string Tryd.underlying9))))))) (by kernel_rfl) (by kernel_rfl)).out enc W 0 _ true fu0 _ (d0, p0) hf0 hs0
  obtain ⟨Ax0, cx0, ek0, lx0, gx0⟩ := hk0
  obtain ⟨rfl, rfl, rfl⟩ : Ax0 = yA0 ∧ yl0 = x0.length ∧ cx0 = yc0 := by
    have e : ([.slice yA0 yl0 yc0] : List Value) = [.slice Ax0 x0.length cx0] := ek0
    injection e with e _
    injection e with e1 e2 e3
    exact ⟨e1.symm, e2, e3.symm⟩
  have hs1 : (d1.weights Tryd.prog 9).all (· ≤ reachBytes) = true := List.all_eq_true.2 fun m hm => List.all_eq_true.1 hw m (DataW.weights_mem_each (j := 1) rfl rfl m hm)
  obtain ⟨y1, rfl⟩ := okWide_string Tryd.underlying9 (hval 1 9 v1 rfl rfl)
  obtain ⟨fu1, hf1⟩ := h1
  obtain ⟨x1, hk1, b1⟩ := (opens_string Tryd.underlying9).out enc W 0 _ true fu1 _ (d1, p1) hf1 hs1
  have ek1 : ([.string y1] : List Value) = [.string x1] := hk1
  obtain rfl : x1 = y1 := by injection ek1 with ek1 _; injection ek1 with ek1; exact ek1.symm
  have hs2 : (d2.weights Tryd.prog 9).all (· ≤ reachBytes) = true := List.all_eq_true.2 fun m hm => List.all_eq_true.1 hw m (DataW.weights_mem_each (j := 2) rfl rfl m hm)
  obtain ⟨y2, rfl⟩ := okWide_string Tryd.underlying9 (hval 2 9 v2 rfl rfl)
  obtain ⟨fu2, hf2⟩ := h2
  obtain ⟨x2, hk2, b2⟩ := (opens_string Tryd.underlying9).out enc W 0 _ true fu2 _ (d2, p2) hf2 hs2
  have ek2 : ([.string y2] : List Value) = [.string x2] := hk2
  obtain rfl : x2 = y2 := by injection ek2 with ek2 _; injection ek2 with ek2; exact ek2.symm
  obtain ⟨k, hk⟩ := RedactNames_pure x0 x1 x2 b0 b1 b2
  refine (R.cartouchelaw07_RedactNames.calls k Ax0 cx0 x0 x1 x2 true W gx0 lx0 hk).mono fun e W' ⟨he, hb⟩ => ⟨_, he, ?_⟩
  exact law_post laidOut (by rw [Tryd.params3]; intro t ht; simp at ht; rcases ht with rfl | rfl <;> exact ⟨by kernel_rfl, of_decide_eq_true (by kernel_rfl)⟩) rfl rfl Tryd.underlying4 rfl hW' hb

def wit : Array Value := #[.slice none 0 0, .string .empty, .string .empty]
theorem laid_met (os : Os) : laidMet Tryd.prog Rows.redactNamesRow.laid ((laidWorld7 os).forCall (fun _ _ => 0) ⟨#[], wit, []⟩).memory :=
  laidMet_of_run' 8 (by kernel_rfl) (by kernel_rfl)
theorem reads (os : Os) {H : Type} (enc : TypeId × Value → H) : ∃ places, DataW.whole enc Tryd.prog ((laidWorld7 os).forCall (fun _ _ => 0) ⟨#[], wit, []⟩).memory Tryd.f3.params.toList Rows.redactNamesSpec.vars false wit.toList 8 = some ([.nil, .lit (.string []), .lit (.string [])], [], places) :=
  ⟨[], by kernel_rfl⟩
set_option maxRecDepth 100000 in
theorem lifted (os : Os) (started : os.Started) (H : Type) (enc : TypeId × Value → H) (F : Stop.Interp) :
    ReturnsInHanded {} Tryd.checked os 3 .any ((OpenSpec.ofChange Rows.redactNamesSpec).preRow enc Tryd.prog Tryd.f3 Rows.redactNamesRow.domain false Rows.redactNamesRow.laid) (((OpenSpec.ofChange Rows.redactNamesSpec).at F).post enc Tryd.prog Tryd.f3 false true false false) := by
  obtain ⟨places, hx⟩ := reads os enc
  refine returnsInHanded_of_row (C := Tryd.checked) (s := OpenSpec.ofChange Rows.redactNamesSpec) own started (by kernel_rfl) Tryd.func3
    (witness_row_at (enc := enc) (C := Tryd.checked) false (laidWorld7 os) wit rfl (by kernel_rfl) (by kernel_rfl) (by kernel_rfl)
      (OpenSpec.preRow_of_cond 8 hx (by kernel_rfl) (fun k hk => by cases hk) (by kernel_rfl) (laid_met os))) ?_
  intro W base args ds gs before hval hW _ _ hw hL _ _
  exact contract H enc W base args ds gs before hval hW hw

theorem said : Rows.RedactNamesSaid :=
  OpenClaim.holds_of_cond 3 Tryd.f3 rfl rfl rfl rfl rfl rfl rfl ⟨rfl, rfl, rfl, rfl, rfl⟩ rfl rfl rfl rfl rfl (by kernel_rfl) Tryd.func3 (by kernel_rfl)
    (of_decide_eq_true (by kernel_rfl)) (by unfold Func.isWrapper; first | (rw [if_pos (by decide +kernel)]; kernel_rfl) | (rw [if_neg (by decide +kernel)]; exact ⟨rfl, rfl⟩))
    (fun os started H enc _ F => by rw [OpenClaim.pre_eq_preRow]; exact lifted os started H enc F)
theorem plain (f : FuncId) (fn : Func) (hf : Tryd.pinned.checked.prog.funcNamed "cartouche/cartouchelaw07.RedactNames" = some f) (hfn : Tryd.pinned.checked.prog.funcs[f]? = some fn) :
    false = Tryd.pinned.checked.prog.looks [] ∧ ∀ (j : Nat) t, fn.params[j]? = some t → Tryd.pinned.checked.prog.wantsStandIn t = false := by
  obtain rfl : f = 3 := Option.some.inj ((show Tryd.prog.funcNamed "cartouche/cartouchelaw07.RedactNames" = some 3 by kernel_rfl).symm.trans hf) |>.symm
  obtain rfl : fn = Tryd.f3 := (Option.some.inj (Tryd.func3.symm.trans hfn)).symm
  refine ⟨by kernel_rfl, fun j t ht => ?_⟩
  rw [Tryd.params3] at ht
  have hm := Array.mem_of_getElem? ht
  simp at hm
  rcases hm with rfl | rfl
  all_goals exact (show Tryd.prog.wantsStandIn _ = false by kernel_rfl)
theorem card : Rows.RedactNamesCardSaid :=
  Claim7.holds_tied_plain_at .later [] _ _ _ _ said (fun _ h => by cases h) (by kernel_rfl) (fun _ h => by cases h) redactNames_row_tie rfl ⟨rfl, rfl⟩ (by kernel_rfl) rfl plain (by kernel_rfl)
#print axioms card
end Go.Proofs.YtbckobokiioeaaaDoor.redactNames
