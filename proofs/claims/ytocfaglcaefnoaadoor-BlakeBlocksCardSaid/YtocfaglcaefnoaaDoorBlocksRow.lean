/- The law BlakeBlocks, of every input: whatever words there are, whatever block, the words behind it are the document's; under no condition but that the tables start as the program's text lays them. -/
import Derived.Test.YtocfaglcaefnoaaDoorFrame2
import Derived.Test.YtocfaglcaefnoaaDoorBlocks
set_option linter.unusedVariables false
set_option linter.unusedSimpArgs false
namespace Go.Proofs.YtocfaglcaefnoaaDoor.blocks
open Go.ChangeShapes Go.WideShapes Go.ChangeAt Go.RowKit

/-- The argument, opened. -/
theorem opened {H : Type} {enc : TypeId × Value → H} {W : World} {base : Nat} {v : Value} {d : DataW H} {p : List MemPlace} (hval : Value.okWide Tryd.prog W .any base 33 v)
    (h : DataW.Trod enc Tryd.prog W 0 (fun _ => true) true 33 v d p) :
    ∃ (hs : List Int) (s : ByteArray) (t : Int) (last : Bool), hs.length = 8 ∧ 0 ≤ t ∧ t < 18446744073709551616 ∧ v = .agg (u32s hs ++ [Value.string s, .int .u64 t, .bool last]).toArray := by
  obtain ⟨cs, rfl⟩ := agg_of Tryd.underlying33 hval
  obtain ⟨fuel, hd⟩ := h
  obtain ⟨ys, m, rfl, hx, hl, hn, hf⟩ := DataW.trod_struct Tryd.underlying33 hd
  have c1 : Tryd.prog.cellsOf 24 = 8 := by kernel_rfl
  have c2 : Tryd.prog.cellsOf 9 = 1 := by kernel_rfl
  have c3 : Tryd.prog.cellsOf 31 = 1 := by kernel_rfl
  have c4 : Tryd.prog.cellsOf 4 = 1 := by kernel_rfl
  have c5 : Tryd.prog.cellsOf 33 = 11 := by kernel_rfl
  replace hl : cs.toList.length = 11 := hl.trans c5
  have f0 : DataW.trod enc Tryd.prog W 0 (fun _ => true) true m 24 ((cs.toList.drop 0).take (Tryd.prog.cellsOf 24)) = ys[0]? := hf 0 _ rfl
  have f1 : DataW.trod enc Tryd.prog W 0 (fun _ => true) true m 9 ((cs.toList.drop 8).take (Tryd.prog.cellsOf 9)) = ys[1]? := hf 1 _ rfl
  have f2 : DataW.trod enc Tryd.prog W 0 (fun _ => true) true m 31 ((cs.toList.drop 9).take (Tryd.prog.cellsOf 31)) = ys[2]? := hf 2 _ rfl
  have f3 : DataW.trod enc Tryd.prog W 0 (fun _ => true) true m 4 ((cs.toList.drop 10).take (Tryd.prog.cellsOf 4)) = ys[3]? := hf 3 _ rfl
  clear hf hx hd hval
  rw [c1] at f0
  rw [c2] at f1
  rw [c3] at f2
  rw [c4] at f3
  have hn4 : ys.length = 4 := hn
  rw [List.getElem?_eq_getElem (by omega : 0 < ys.length)] at f0
  rw [List.getElem?_eq_getElem (by omega : 1 < ys.length)] at f1
  rw [List.getElem?_eq_getElem (by omega : 2 < ys.length)] at f2
  rw [List.getElem?_eq_getElem (by omega : 3 < ys.length)] at f3
  obtain ⟨hs, hlen, e0, _⟩ := ints_open Tryd.underlying24 Tryd.underlying23 (by kernel_rfl) (by kernel_rfl) f0
  obtain ⟨s, e1, _, hs1⟩ := DataW.trod_string Tryd.underlying9 f1
  obtain ⟨t, e2, _, wt⟩ := DataW.trod_int Tryd.underlying31 f2
  have bt := bounds_u64 wt
  obtain ⟨last, e3, _⟩ := DataW.trod_bool Tryd.underlying4 f3
  refine ⟨hs, s, t, last, hlen, bt.1, by omega, ?_⟩
  rw [List.drop_zero] at e0
  have g0 := List.take_append_drop 8 cs.toList
  have g1 := List.take_append_drop 1 (cs.toList.drop 8)
  have g2 := List.take_append_drop 1 (cs.toList.drop 9)
  have g3 := List.take_append_drop 1 (cs.toList.drop 10)
  have g4 : cs.toList.drop 11 = [] := List.drop_eq_nil_of_le (by omega)
  rw [List.drop_drop] at g1 g2 g3
  rw [e0] at g0
  rw [e1] at g1
  rw [e2] at g2
  rw [e3, g4] at g3
  rw [← g1, ← g2, ← g3] at g0
  have g5 : cs = cs.toList.toArray := (Array.toArray_toList ..).symm
  rw [g5, ← g0]
  rfl

theorem contract (H : Type) (enc : TypeId × Value → H) (W : World) (base : Nat) (args : Array Value) (ds gs : List (DataW H)) (before : List MemPlace)
    (hval : ∀ (j : Nat) t v, Tryd.f4.params[j]? = some t → args[j]? = some v → Value.okWide Tryd.prog W .any base t v)
    (hW : DataW.Whole enc Tryd.prog Tryd.f4.params.toList Rows.blakeBlocksSpec.vars false W args.toList ds gs before) (hL : laidMetH Tryd.prog Rows.blakeBlocksRow.laid W) :
    Calls Tryd.prog 4 args W fun e W' => ∃ v, e = .returned v ∧ Rows.blakeBlocksSpec.post enc Tryd.prog Tryd.f4 false true false false W args v W' := by
  have hW' := hW
  obtain ⟨p, q, hA0, hV, rfl, hfz, hnd⟩ := hW
  have hA : DataW.TrodAll enc Tryd.prog W 0 (fun _ => true) true Tryd.f4.params.toList args.toList ds p := hA0
  rw [Tryd.params4] at hA hval
  obtain ⟨v0, vs0, d0, ds0, p0, q0, hargs, rfl, rfl, h0, r0⟩ := trodAll_cons hA
  obtain ⟨rfl, rfl, rfl⟩ := trodAll_nil r0
  obtain rfl : args = #[v0] := by cases args; simp_all
  obtain ⟨hs, s, t, last, hlen, ht1, ht2, rfl⟩ := opened (hval 0 _ v0 rfl rfl) h0
  have hT : Tabs W := tabs_of_laid (l := Rows.blakeBlocksRow.laid) hL (by simp [Rows.blakeBlocksRow]) (by simp [Rows.blakeBlocksRow]) (by simp [Rows.blakeBlocksRow])
  refine (blocks_walk hs hlen s t ht1 ht2 last W hT).mono fun e W' ⟨he, hb⟩ => ⟨_, he, ?_⟩
  exact law_post laidOut (by rw [Tryd.params4]; intro t ht; simp at ht; subst ht; exact ⟨by kernel_rfl, of_decide_eq_true (by kernel_rfl)⟩) rfl rfl Tryd.underlying4 rfl hW' hb

def wit : Array Value := #[.agg #[.int .u32 0, .int .u32 0, .int .u32 0, .int .u32 0, .int .u32 0, .int .u32 0, .int .u32 0, .int .u32 0, .string .empty, .int .u64 0, .bool false]]
theorem laid_met (os : Os) : laidMet Tryd.prog Rows.blakeBlocksRow.laid ((laidWorld os).forCall (fun _ _ => 0) ⟨#[], wit, []⟩).memory :=
  laidMet_of_run' 8 (by kernel_rfl) (by kernel_rfl)
theorem reads (os : Os) {H : Type} (enc : TypeId × Value → H) : ∃ places, DataW.whole enc Tryd.prog ((laidWorld os).forCall (fun _ _ => 0) ⟨#[], wit, []⟩).memory Tryd.f4.params.toList Rows.blakeBlocksSpec.vars false wit.toList 8 = some ([.agg [.agg [.lit (.int .u32 0), .lit (.int .u32 0), .lit (.int .u32 0), .lit (.int .u32 0), .lit (.int .u32 0), .lit (.int .u32 0), .lit (.int .u32 0), .lit (.int .u32 0)], .lit (.string []), .lit (.int .u64 0), .lit (.bool false)]], [], places) :=
  ⟨[], by kernel_rfl⟩

set_option maxRecDepth 100000 in
theorem lifted (os : Os) (started : os.Started) (H : Type) (enc : TypeId × Value → H) (F : Stop.Interp) :
    ReturnsInHanded {} Tryd.checked os 4 .any ((OpenSpec.ofChange Rows.blakeBlocksSpec).preRow enc Tryd.prog Tryd.f4 Rows.blakeBlocksRow.domain false Rows.blakeBlocksRow.laid) (((OpenSpec.ofChange Rows.blakeBlocksSpec).at F).post enc Tryd.prog Tryd.f4 false true false false) := by
  obtain ⟨places, hx⟩ := reads os enc
  refine returnsInHanded_of_row (C := Tryd.checked) (s := OpenSpec.ofChange Rows.blakeBlocksSpec) own started (by kernel_rfl) Tryd.func4
    (witness_row_at (enc := enc) (C := Tryd.checked) false (laidWorld os) wit rfl (by kernel_rfl) (by kernel_rfl) (by kernel_rfl)
      (OpenSpec.preRow_of_cond 8 hx (by kernel_rfl) (fun k hk => by cases hk) (by kernel_rfl) (laid_met os))) ?_
  intro W base args ds gs before hval hW _ _ _ hL _ _
  exact contract H enc W base args ds gs before hval hW hL

theorem said : Rows.BlakeBlocksSaid :=
  OpenClaim.holds_of_cond 4 Tryd.f4 rfl rfl rfl rfl rfl rfl rfl ⟨rfl, rfl, rfl, rfl, rfl⟩ rfl rfl rfl rfl rfl (by kernel_rfl) Tryd.func4 (by kernel_rfl)
    (of_decide_eq_true (by kernel_rfl)) (by unfold Func.isWrapper; first | (rw [if_pos (by decide +kernel)]; kernel_rfl) | (rw [if_neg (by decide +kernel)]; exact ⟨rfl, rfl⟩))
    (fun os started H enc _ F => by rw [OpenClaim.pre_eq_preRow]; exact lifted os started H enc F)
theorem plain (f : FuncId) (fn : Func) (hf : Tryd.pinned.checked.prog.funcNamed "cartouche/cartouchelaw02.BlakeBlocks" = some f) (hfn : Tryd.pinned.checked.prog.funcs[f]? = some fn) :
    false = Tryd.pinned.checked.prog.looks [] ∧ ∀ (j : Nat) t, fn.params[j]? = some t → Tryd.pinned.checked.prog.wantsStandIn t = false := by
  obtain rfl : f = 4 := Option.some.inj ((show Tryd.prog.funcNamed "cartouche/cartouchelaw02.BlakeBlocks" = some 4 by kernel_rfl).symm.trans hf) |>.symm
  obtain rfl : fn = Tryd.f4 := (Option.some.inj (Tryd.func4.symm.trans hfn)).symm
  refine ⟨by kernel_rfl, fun j t ht => ?_⟩
  rw [Tryd.params4] at ht
  obtain rfl : t = 33 := by simpa using Array.mem_of_getElem? ht
  exact (show Tryd.prog.wantsStandIn _ = false by kernel_rfl)
theorem card : Rows.BlakeBlocksCardSaid :=
  Claim7.holds_tied_plain_at .later [] _ _ _ _ said (fun _ h => by cases h) (by kernel_rfl) (fun _ h => by cases h) blakeBlocks_row_tie rfl ⟨rfl, rfl⟩ (by kernel_rfl) rfl plain (by kernel_rfl)
#print axioms card
end Go.Proofs.YtocfaglcaefnoaaDoor.blocks
