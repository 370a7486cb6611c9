/- The law ChainBroken, of every row of at most 1048576 bodies and letters: a link whose sum ahead is another one is told; under the condition that what it reads is of bulk at most 1048576, and that the tables start as the text of the program lays them. -/
import Derived.Test.YtnigomohlgcojaaDoorFrameM
import Derived.Test.YtnigomohlgcojaaDoorChainL3b
import Derived.SizedLaws
set_option linter.unusedVariables false
set_option linter.unusedSimpArgs false
namespace Go.Proofs.YtnigomohlgcojaaDoor.chainBroken
open Go.ChangeShapes Go.WideShapes Go.ChangeAt Go.RowKit Go.ChangeMaps Go.Proofs.YtnigomohlgcojaaDoorW.PrintWords

theorem bulk_pos {H : Type} (d : DataW H) : 1 ≤ Rows.uptoBulk d := by
  cases d with
  | lit l => cases l <;> simp [Rows.uptoBulk]
  | _ => simp [Rows.uptoBulk]
theorem bulk_one {H : Type} : ∀ {l : List (DataW H)} {d : DataW H}, d ∈ l → Rows.uptoBulk d ≤ Rows.uptoBulkAll l
  | [], _, h => by cases h
  | x :: r, d, h => by
    simp only [Rows.uptoBulkAll]
    rcases List.mem_cons.1 h with e | h
    · subst e; omega
    · have := bulk_one h; omega
theorem bulk_len {H : Type} : ∀ (l : List (DataW H)), l.length ≤ Rows.uptoBulkAll l
  | [] => Nat.zero_le _
  | x :: r => by
    have h1 := bulk_len r
    have h2 := bulk_pos x
    simp only [Rows.uptoBulkAll, List.length_cons]
    omega
theorem bulk_slice {H : Type} {enc : TypeId × Value → H} {P : Program} {w : World} {base : Nat} {spare : Nat → Bool} {held : Bool} {fuel : Nat} {t e : TypeId} {A : Option Addr} {n c : Nat} {d : DataW H} {p : List MemPlace} (ht : P.underlying t = some (.slice e)) (h : DataW.trod enc P w base spare held fuel t [.slice A n c] = some (d, p)) : n ≤ Rows.uptoBulk d := by
  rcases Go.Deep.open_slice ht h with ⟨e1, _⟩ | ⟨a, len, cap, m, k, D, Pl, e1, _, _, _, _, e2, _⟩
  · injection e1 with e1 _
    injection e1 with _ e1 _
    omega
  · injection e1 with e1 _
    injection e1 with _ e1 _
    have e3 : d = .slice ((List.range len).map D) ((List.range (m - len)).map fun j => D (len + j)) := congrArg Prod.fst e2
    have h1 := bulk_len ((List.range len).map D)
    rw [List.length_map, List.length_range] at h1
    subst e3
    simp only [Rows.uptoBulk]
    omega
set_option maxRecDepth 100000 in
theorem contract (H : Type) (enc : TypeId × Value → H) (W : World) (base : Nat) (args : Array Value) (ds gs : List (DataW H)) (before : List MemPlace)
    (hval : ∀ (j : Nat) t v, Tryd.f7.params[j]? = some t → args[j]? = some v → Value.okWide Tryd.prog W .any base t v)
    (hW : DataW.Whole enc Tryd.prog Tryd.f7.params.toList Rows.chainBrokenSpec.vars false W args.toList ds gs before)
    (hu : Rows.uptoSmall H (ds ++ gs) = true)
    (hw : (DataW.weightsEach Tryd.prog (Tryd.f7.params.toList ++ []) (ds ++ gs)).all (· ≤ reachBytes) = true) (hL : laidMetH Tryd.prog Rows.chainBrokenUptoRow.laid W) :
    Calls Tryd.prog 7 args W fun e W' => ∃ v, e = .returned v ∧ Rows.chainBrokenSpec.post enc Tryd.prog Tryd.f7 false true false false W args v W' := by
  have hW' := hW
  obtain ⟨p, q, hA0, hV, rfl, hfz, hnd⟩ := hW
  have hA : DataW.TrodAll enc Tryd.prog W 0 (fun _ => true) true Tryd.f7.params.toList args.toList ds p := hA0
  rw [Tryd.params7] at hA hval hw
  obtain ⟨v0, vs0, d0, ds0, p0, q0, hargs, rfl, rfl, h0, r0⟩ := trodAll_cons hA
  obtain ⟨v1, vs1, d1, ds1, p1, q1, rfl, rfl, rfl, h1, r1⟩ := trodAll_cons r0
  obtain ⟨v2, vs2, d2, ds2, p2, q2, rfl, rfl, rfl, h2, r2⟩ := trodAll_cons r1
  obtain ⟨rfl, rfl, rfl⟩ := trodAll_nil r2
  obtain rfl : args = #[v0, v1, v2] := by cases args; simp_all
  obtain ⟨rfl, rfl⟩ := trodVars_none hV
  have hs0 : (d0.weights Tryd.prog 22).all (· ≤ reachBytes) = true := List.all_eq_true.2 fun m hm => List.all_eq_true.1 hw m (DataW.weights_mem_each (j := 0) rfl rfl m hm)
  obtain ⟨yA0, yl0, yc0, rfl⟩ := okWide_slice Tryd.underlying22 (hval 0 22 v0 rfl rfl)
  obtain ⟨fu0, hf0⟩ := h0
  obtain ⟨x0, hk0, b0⟩ := (opens_slice Tryd.underlying22 (opens_string Tryd.underlying9) (by kernel_rfl) (by kernel_rfl)).out enc W 0 _ true fu0 _ (d0, p0) hf0 hs0
  obtain ⟨Ax0, cx0, ek0, lx0, gx0⟩ := hk0
  have u0 : yl0 ≤ 1048576 := Nat.le_trans (bulk_slice Tryd.underlying22 hf0) (Nat.le_trans (bulk_one (l := [d0, d1, d2]) (by simp)) (of_decide_eq_true hu))
  obtain ⟨rfl, rfl, rfl⟩ : Ax0 = yA0 ∧ yl0 = x0.length ∧ cx0 = yc0 := by
    have e : ([.slice yA0 yl0 yc0] : List Value) = [.slice Ax0 x0.length cx0] := ek0
    injection e with e _
    injection e with e1 e2 e3
    exact ⟨e1.symm, e2, e3.symm⟩
  have hs1 : (d1.weights Tryd.prog 3).all (· ≤ reachBytes) = true := List.all_eq_true.2 fun m hm => List.all_eq_true.1 hw m (DataW.weights_mem_each (j := 1) rfl rfl m hm)
  obtain ⟨y1, rfl⟩ := okWide_int Tryd.underlying3 (hval 1 3 v1 rfl rfl)
  obtain ⟨fu1, hf1⟩ := h1
  obtain ⟨x1, hk1, b1⟩ := (opens_int Tryd.underlying3).out enc W 0 _ true fu1 _ (d1, p1) hf1 hs1
  have ek1 : ([.int .i64 y1] : List Value) = [.int .i64 x1] := hk1
  obtain rfl : x1 = y1 := by injection ek1 with ek1 _; injection ek1 with _ ek1; exact ek1.symm
  have hs2 : (d2.weights Tryd.prog 9).all (· ≤ reachBytes) = true := List.all_eq_true.2 fun m hm => List.all_eq_true.1 hw m (DataW.weights_mem_each (j := 2) rfl rfl m hm)
  obtain ⟨y2, rfl⟩ := okWide_string Tryd.underlying9 (hval 2 9 v2 rfl rfl)
  obtain ⟨fu2, hf2⟩ := h2
  obtain ⟨x2, hk2, b2⟩ := (opens_string Tryd.underlying9).out enc W 0 _ true fu2 _ (d2, p2) hf2 hs2
  have ek2 : ([.string y2] : List Value) = [.string x2] := hk2
  obtain rfl : x2 = y2 := by injection ek2 with ek2 _; injection ek2 with ek2; exact ek2.symm
  have hT : Tabs W := tabs_of_laid (l := Rows.chainBrokenUptoRow.laid) hL (by simp [Rows.chainBrokenUptoRow]) (by simp [Rows.chainBrokenUptoRow]) (by simp [Rows.chainBrokenUptoRow])
  obtain ⟨k, hk⟩ := ChainBroken_pure x0 x1 x2 b0 b1 b2 u0
  refine (R.cartouchelaw04_ChainBroken.calls k Ax0 cx0 x0 x1 x2 true W hT gx0 lx0 hk).mono fun e W' ⟨he, hb⟩ => ⟨_, he, ?_⟩
  exact law_post laidOut (by rw [Tryd.params7]; intro t ht; simp at ht; rcases ht with rfl | rfl | rfl <;> exact ⟨by kernel_rfl, of_decide_eq_true (by kernel_rfl)⟩) rfl rfl Tryd.underlying4 rfl hW' hb

def wit : Array Value := #[.slice none 0 0, .int .i64 0, .string .empty]
theorem laid_met (os : Os) : laidMet Tryd.prog Rows.chainBrokenUptoRow.laid ((laidWorld os).forCall (fun _ _ => 0) ⟨#[], wit, []⟩).memory :=
  laidMet_of_run' 8 (by kernel_rfl) (by kernel_rfl)
theorem reads (os : Os) {H : Type} (enc : TypeId × Value → H) : ∃ places, DataW.whole enc Tryd.prog ((laidWorld os).forCall (fun _ _ => 0) ⟨#[], wit, []⟩).memory Tryd.f7.params.toList Rows.chainBrokenSpec.vars false wit.toList 8 = some ([.nil, .lit (.int .i64 0), .lit (.string [])], [], places) :=
  ⟨[], by kernel_rfl⟩
set_option maxRecDepth 100000 in
theorem lifted (os : Os) (started : os.Started) (H : Type) (enc : TypeId × Value → H) (F : Stop.Interp) :
    ReturnsInHanded {} Tryd.checked os 7 .any ((Rows.OpenSpec.upto Rows.chainBrokenSpec).preRow enc Tryd.prog Tryd.f7 Rows.chainBrokenUptoRow.domain false Rows.chainBrokenUptoRow.laid) (((Rows.OpenSpec.upto Rows.chainBrokenSpec).at F).post enc Tryd.prog Tryd.f7 false true false false) := by
  obtain ⟨places, hx⟩ := reads os enc
  refine returnsInHanded_of_row (C := Tryd.checked) (s := Rows.OpenSpec.upto Rows.chainBrokenSpec) own started (by kernel_rfl) Tryd.func7
    (witness_row_at (enc := enc) (C := Tryd.checked) false (laidWorld os) wit rfl (by kernel_rfl) (by kernel_rfl) (by kernel_rfl)
      (OpenSpec.preRow_of_cond 8 hx (by kernel_rfl) (fun k hk => by cases hk; kernel_rfl) (by kernel_rfl) (laid_met os))) ?_
  intro W base args ds gs before hval hW _ hu hw hL _ _
  exact contract H enc W base args ds gs before hval hW (hu _ rfl) hw hL

theorem said : Rows.ChainBrokenUptoSaid :=
  OpenClaim.holds_of_cond 7 Tryd.f7 rfl rfl rfl rfl rfl rfl rfl ⟨rfl, rfl, rfl, rfl, rfl⟩ rfl rfl rfl rfl rfl (by kernel_rfl) Tryd.func7 (by kernel_rfl)
    (of_decide_eq_true (by kernel_rfl)) (by unfold Func.isWrapper; first | (rw [if_pos (by decide +kernel)]; kernel_rfl) | (rw [if_neg (by decide +kernel)]; exact ⟨rfl, rfl⟩))
    (fun os started H enc _ F => by rw [OpenClaim.pre_eq_preRow]; exact lifted os started H enc F)
theorem plain (f : FuncId) (fn : Func) (hf : Tryd.pinned.checked.prog.funcNamed "cartouche/cartouchelaw04.ChainBroken" = some f) (hfn : Tryd.pinned.checked.prog.funcs[f]? = some fn) :
    false = Tryd.pinned.checked.prog.looks [] ∧ ∀ (j : Nat) t, fn.params[j]? = some t → Tryd.pinned.checked.prog.wantsStandIn t = false := by
  obtain rfl : f = 7 := Option.some.inj ((show Tryd.prog.funcNamed "cartouche/cartouchelaw04.ChainBroken" = some 7 by kernel_rfl).symm.trans hf) |>.symm
  obtain rfl : fn = Tryd.f7 := (Option.some.inj (Tryd.func7.symm.trans hfn)).symm
  refine ⟨by kernel_rfl, fun j t ht => ?_⟩
  rw [Tryd.params7] at ht
  have hm := Array.mem_of_getElem? ht
  simp at hm
  rcases hm with rfl | rfl | rfl
  all_goals exact (show Tryd.prog.wantsStandIn _ = false by kernel_rfl)
theorem card : Rows.ChainBrokenUptoCardSaid :=
  Claim7.holds_tied_plain_at .later [] _ _ _ _ said (fun _ h => by cases h) (by kernel_rfl) (fun _ h => by cases h) chainBrokenUpto_row_tie rfl ⟨rfl, rfl⟩ (by kernel_rfl) rfl plain (by kernel_rfl)
#print axioms card
end Go.Proofs.YtnigomohlgcojaaDoor.chainBroken
