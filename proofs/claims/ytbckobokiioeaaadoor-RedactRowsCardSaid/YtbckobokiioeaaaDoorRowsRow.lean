/- The law RedactRows, of every seed, every history: a history with tags, its shape, and twins, are as the document says; under no condition but that the tables start as the text of the program lays them. -/
import Derived.Test.YtbckobokiioeaaaDoorLaid7
import Derived.Test.YtbckobokiioeaaaDoorRedRowsL
import Derived.SizedLaws
set_option linter.unusedVariables false
set_option linter.unusedSimpArgs false
namespace Go.Proofs.YtbckobokiioeaaaDoor.redactRows
open Go.ChangeShapes Go.WideShapes Go.ChangeAt Go.RowKit Go.ChangeMaps Go.Proofs.YtbckobokiioeaaaDoorW.PrintWords

set_option maxRecDepth 100000 in
theorem contract (H : Type) (enc : TypeId × Value → H) (W : World) (base : Nat) (args : Array Value) (ds gs : List (DataW H)) (before : List MemPlace)
    (hval : ∀ (j : Nat) t v, Tryd.f8.params[j]? = some t → args[j]? = some v → Value.okWide Tryd.prog W .any base t v)
    (hW : DataW.Whole enc Tryd.prog Tryd.f8.params.toList Rows.redactRowsSpec.vars false W args.toList ds gs before)
    (hw : (DataW.weightsEach Tryd.prog (Tryd.f8.params.toList ++ []) (ds ++ gs)).all (· ≤ reachBytes) = true) (hL : laidMetH Tryd.prog Rows.redactRowsRow.laid W) :
    Calls Tryd.prog 8 args W fun e W' => ∃ v, e = .returned v ∧ Rows.redactRowsSpec.post enc Tryd.prog Tryd.f8 false true false false W args v W' := by
  have hW' := hW
  obtain ⟨p, q, hA0, hV, rfl, hfz, hnd⟩ := hW
  have hA : DataW.TrodAll enc Tryd.prog W 0 (fun _ => true) true Tryd.f8.params.toList args.toList ds p := hA0
  rw [Tryd.params8] at hA hval hw
  obtain ⟨v0, vs0, d0, ds0, p0, q0, hargs, rfl, rfl, h0, r0⟩ := trodAll_cons hA
  obtain ⟨v1, vs1, d1, ds1, p1, q1, rfl, rfl, rfl, h1, r1⟩ := trodAll_cons r0
  obtain ⟨rfl, rfl, rfl⟩ := trodAll_nil r1
  obtain rfl : args = #[v0, v1] := by cases args; simp_all
  obtain ⟨rfl, rfl⟩ := trodVars_none hV
  have hs0 : (d0.weights Tryd.prog 9).all (· ≤ reachBytes) = true := List.all_eq_true.2 fun m hm => List.all_eq_true.1 hw m (DataW.weights_mem_each (j := 0) rfl rfl m hm)
  obtain ⟨y0, rfl⟩ := okWide_string Tryd.underlying9 (hval 0 9 v0 rfl rfl)
  obtain ⟨fu0, hf0⟩ := h0
  obtain ⟨x0, hk0, b0⟩ := (opens_string Tryd.underlying9).out enc W 0 _ true fu0 _ (d0, p0) hf0 hs0
  have ek0 : ([.string y0] : List Value) = [.string x0] := hk0
  obtain rfl : x0 = y0 := by injection ek0 with ek0 _; injection ek0 with ek0; exact ek0.symm
  have hs1 : (d1.weights Tryd.prog 22).all (· ≤ reachBytes) = true := List.all_eq_true.2 fun m hm => List.all_eq_true.1 hw m (DataW.weights_mem_each (j := 1) rfl rfl m hm)
  obtain ⟨yA1, yl1, yc1, rfl⟩ := okWide_slice Tryd.underlying22 (hval 1 22 v1 rfl rfl)
  obtain ⟨fu1, hf1⟩ := h1
  obtain ⟨x1, hk1, b1⟩ := (opens_slice Tryd.underlying22 (opens_iso (f := fun x : Q.S26 => (x.f0, x.f1, x.f2, x.f3)) (fun a => ⟨a.1, a.2.1, a.2.2.1, a.2.2.2⟩) (fun _ => rfl) (opens_struct (tot := 4) Tryd.underlying26 (by kernel_rfl) (opens_cons (m := 1) rfl (by kernel_rfl) (opens_int Tryd.underlying3) (opens_cons (m := 1) rfl (by kernel_rfl) (opens_int Tryd.underlying3) (opens_cons (m := 1) rfl (by kernel_rfl) (opens_string Tryd.underlying9) (opens_last rfl (by kernel_rfl) (opens_string Tryd.underlying9))))))) (by kernel_rfl) (by kernel_rfl)).out enc W 0 _ true fu1 _ (d1, p1) hf1 hs1
  obtain ⟨Ax1, cx1, ek1, lx1, gx1⟩ := hk1
  obtain ⟨rfl, rfl, rfl⟩ : Ax1 = yA1 ∧ yl1 = x1.length ∧ cx1 = yc1 := by
    have e : ([.slice yA1 yl1 yc1] : List Value) = [.slice Ax1 x1.length cx1] := ek1
    injection e with e _
    injection e with e1 e2 e3
    exact ⟨e1.symm, e2, e3.symm⟩
  have hT : Tabs W := tabs_of_laid (l := Rows.redactRowsRow.laid) hL (by simp [Rows.redactRowsRow]) (by simp [Rows.redactRowsRow]) (by simp [Rows.redactRowsRow])
  obtain ⟨k, hk⟩ := RedactRows_pure x0 x1 b0 b1
  refine (R.cartouchelaw07_RedactRows.calls k x0 Ax1 cx1 x1 true W hT gx1 lx1 hk).mono fun e W' ⟨he, hb⟩ => ⟨_, he, ?_⟩
  exact law_post laidOut (by rw [Tryd.params8]; intro t ht; simp at ht; rcases ht with rfl | rfl <;> exact ⟨by kernel_rfl, of_decide_eq_true (by kernel_rfl)⟩) rfl rfl Tryd.underlying4 rfl hW' hb

def wit : Array Value := #[.string .empty, .slice none 0 0]
theorem laid_met (os : Os) : laidMet Tryd.prog Rows.redactRowsRow.laid ((laidWorld7 os).forCall (fun _ _ => 0) ⟨#[], wit, []⟩).memory :=
  laidMet_of_run' 8 (by kernel_rfl) (by kernel_rfl)
theorem reads (os : Os) {H : Type} (enc : TypeId × Value → H) : ∃ places, DataW.whole enc Tryd.prog ((laidWorld7 os).forCall (fun _ _ => 0) ⟨#[], wit, []⟩).memory Tryd.f8.params.toList Rows.redactRowsSpec.vars false wit.toList 8 = some ([.lit (.string []), .nil], [], places) :=
  ⟨[], by kernel_rfl⟩
set_option maxRecDepth 100000 in
theorem lifted (os : Os) (started : os.Started) (H : Type) (enc : TypeId × Value → H) (F : Stop.Interp) :
    ReturnsInHanded {} Tryd.checked os 8 .any ((OpenSpec.ofChange Rows.redactRowsSpec).preRow enc Tryd.prog Tryd.f8 Rows.redactRowsRow.domain false Rows.redactRowsRow.laid) (((OpenSpec.ofChange Rows.redactRowsSpec).at F).post enc Tryd.prog Tryd.f8 false true false false) := by
  obtain ⟨places, hx⟩ := reads os enc
  refine returnsInHanded_of_row (C := Tryd.checked) (s := OpenSpec.ofChange Rows.redactRowsSpec) own started (by kernel_rfl) Tryd.func8
    (witness_row_at (enc := enc) (C := Tryd.checked) false (laidWorld7 os) wit rfl (by kernel_rfl) (by kernel_rfl) (by kernel_rfl)
      (OpenSpec.preRow_of_cond 8 hx (by kernel_rfl) (fun k hk => by cases hk) (by kernel_rfl) (laid_met os))) ?_
  intro W base args ds gs before hval hW _ _ hw hL _ _
  exact contract H enc W base args ds gs before hval hW hw hL

theorem said : Rows.RedactRowsSaid :=
  OpenClaim.holds_of_cond 8 Tryd.f8 rfl rfl rfl rfl rfl rfl rfl ⟨rfl, rfl, rfl, rfl, rfl⟩ rfl rfl rfl rfl rfl (by kernel_rfl) Tryd.func8 (by kernel_rfl)
    (of_decide_eq_true (by kernel_rfl)) (by unfold Func.isWrapper; first | (rw [if_pos (by decide +kernel)]; kernel_rfl) | (rw [if_neg (by decide +kernel)]; exact ⟨rfl, rfl⟩))
    (fun os started H enc _ F => by rw [OpenClaim.pre_eq_preRow]; exact lifted os started H enc F)
theorem plain (f : FuncId) (fn : Func) (hf : Tryd.pinned.checked.prog.funcNamed "cartouche/cartouchelaw07.RedactRows" = some f) (hfn : Tryd.pinned.checked.prog.funcs[f]? = some fn) :
    false = Tryd.pinned.checked.prog.looks [] ∧ ∀ (j : Nat) t, fn.params[j]? = some t → Tryd.pinned.checked.prog.wantsStandIn t = false := by
  obtain rfl : f = 8 := Option.some.inj ((show Tryd.prog.funcNamed "cartouche/cartouchelaw07.RedactRows" = some 8 by kernel_rfl).symm.trans hf) |>.symm
  obtain rfl : fn = Tryd.f8 := (Option.some.inj (Tryd.func8.symm.trans hfn)).symm
  refine ⟨by kernel_rfl, fun j t ht => ?_⟩
  rw [Tryd.params8] at ht
  have hm := Array.mem_of_getElem? ht
  simp at hm
  rcases hm with rfl | rfl
  all_goals exact (show Tryd.prog.wantsStandIn _ = false by kernel_rfl)
theorem card : Rows.RedactRowsCardSaid :=
  Claim7.holds_tied_plain_at .later [] _ _ _ _ said (fun _ h => by cases h) (by kernel_rfl) (fun _ h => by cases h) redactRows_row_tie rfl ⟨rfl, rfl⟩ (by kernel_rfl) rfl plain (by kernel_rfl)
#print axioms card
end Go.Proofs.YtbckobokiioeaaaDoor.redactRows
