/- The document's example: its certificate as data; its proofs' checks reckoned. -/
import Derived.Test.YtjlpjpjodhkpdaaGreatDoorShF
import Derived.Test.YtjlpjpjodhkpdaaGreatDoorCk
set_option linter.unusedVariables false
set_option linter.unusedSimpArgs false
namespace Go.Proofs.YtjlpjpjodhkpdaaGreatDoor
open Go.RowKit Go.Proofs.YtjlpjpjodhkpdaaGreatDoor.Q Go.Proofs.YtjlpjpjodhkpdaaGreatDoorW.PrintWords
def ringL : List Edg := [⟨1, 1, 2, 4, 5⟩, ⟨3, 2, 1, 3, 4⟩]
def prfD (i : Nat) : Prf := ⟨(i : Int) + 3, evAt i, pathOf (i + 3)⟩
def proofsL : List Prf := [prfD 0, prfD 1, prfD 2, prfD 3, prfD 4]
def certL : CertD := ⟨⟨#[116]⟩, 1, ⟨#[]⟩, rootV, 8, 1, false, [], 0, 0, 0, ringL, proofsL⟩
theorem h8 : TM.halfN 8 = 4 := by unfold TM.halfN; simp [TM.halfFrom]
theorem h4 : TM.halfN 4 = 2 := by unfold TM.halfN; simp [TM.halfFrom]
theorem h2 : TM.halfN 2 = 1 := by unfold TM.halfN; simp [TM.halfFrom]
theorem rights1 (lo i : Nat) : TM.rights lo 1 i = [] := by
 have h := TM.rights_length lo 1 i
 rw [TM.wayL, dif_neg (by decide)] at h
 exact List.eq_nil_of_length_eq_zero h
theorem rights3_ : TM.rights 0 8 3 = [false, false, true] := by
 rw [TM.rights_right (lo := 0) (n := 8) (i := 3) (by decide) (by rw [h8]; decide), h8]
 rw [TM.rights_left (lo := 0) (n := 4) (i := 3) (by decide) (by rw [h4]; decide), h4]
 rw [TM.rights_left (lo := 2) (n := 2) (i := 3) (by decide) (by rw [h2]; decide), h2]
 simp [rights1]
theorem rights4_ : TM.rights 0 8 4 = [true, true, false] := by
 rw [TM.rights_left (lo := 0) (n := 8) (i := 4) (by decide) (by rw [h8]; decide), h8]
 rw [TM.rights_right (lo := 4) (n := 4) (i := 4) (by decide) (by rw [h4]; decide), h4]
 rw [TM.rights_right (lo := 4) (n := 2) (i := 4) (by decide) (by rw [h2]; decide), h2]
 simp [rights1]
theorem rights5_ : TM.rights 0 8 5 = [false, true, false] := by
 rw [TM.rights_left (lo := 0) (n := 8) (i := 5) (by decide) (by rw [h8]; decide), h8]
 rw [TM.rights_right (lo := 4) (n := 4) (i := 5) (by decide) (by rw [h4]; decide), h4]
 rw [TM.rights_left (lo := 4) (n := 2) (i := 5) (by decide) (by rw [h2]; decide), h2]
 simp [rights1]
theorem rights6_ : TM.rights 0 8 6 = [true, false, false] := by
 rw [TM.rights_left (lo := 0) (n := 8) (i := 6) (by decide) (by rw [h8]; decide), h8]
 rw [TM.rights_left (lo := 4) (n := 4) (i := 6) (by decide) (by rw [h4]; decide), h4]
 rw [TM.rights_right (lo := 6) (n := 2) (i := 6) (by decide) (by rw [h2]; decide), h2]
 simp [rights1]
theorem rights7_ : TM.rights 0 8 7 = [false, false, false] := by
 rw [TM.rights_left (lo := 0) (n := 8) (i := 7) (by decide) (by rw [h8]; decide), h8]
 rw [TM.rights_left (lo := 4) (n := 4) (i := 7) (by decide) (by rw [h4]; decide), h4]
 rw [TM.rights_left (lo := 6) (n := 2) (i := 7) (by decide) (by rw [h2]; decide), h2]
 simp [rights1]
theorem chk_of (i : Nat) (hi : i < 8) (s : ByteArray) (path : List ByteArray) (bs : List Bool) (h1 : TM.rights 0 8 i = bs) (h2 : path.length = bs.length) (h3 : ∀ p ∈ path, p.size = 32) (h4 : sumB (rootB 8 (sumB (TM.lastB (TM.climbF sumB bs path [TM.leafB s])))) = rootV) : checkR rootV 8 (i : Int) s path = 0 := by
 have e : climbR 8 (i : Int) s path = (TM.climbF sumB bs path [TM.leafB s] ++ [rootB 8 (sumB (TM.lastB (TM.climbF sumB bs path [TM.leafB s])))], 0) := by
  unfold climbR
  rw [if_neg (by omega), if_neg, show ((8 : Int)).toNat = 8 from rfl, Int.toNat_natCast, h1]
  rintro (h | ⟨p, hp, hne⟩)
  · rw [show ((8 : Int)).toNat = 8 from rfl, Int.toNat_natCast, ← TM.rights_length, h1] at h
    exact h h2
  · exact hne (h3 p hp)
 unfold checkR
 rw [e]
 simp only [if_true, TM.lastB_snoc]
 rw [if_pos h4]
theorem top0 : sumB (rootB 8 (sumB (TM.lastB (TM.climbF sumB [false, false, true] (pathOf 3) [TM.leafB (evBytes (evAt 0))])))) = rootV := by kernel_rfl
theorem chk0 : chkP rootV 8 (prfD 0) = 0 := chk_of 3 (by decide) _ _ _ rights3_ rfl (by decide) top0
theorem top1 : sumB (rootB 8 (sumB (TM.lastB (TM.climbF sumB [true, true, false] (pathOf 4) [TM.leafB (evBytes (evAt 1))])))) = rootV := by kernel_rfl
theorem chk1 : chkP rootV 8 (prfD 1) = 0 := chk_of 4 (by decide) _ _ _ rights4_ rfl (by decide) top1
theorem top2 : sumB (rootB 8 (sumB (TM.lastB (TM.climbF sumB [false, true, false] (pathOf 5) [TM.leafB (evBytes (evAt 2))])))) = rootV := by kernel_rfl
theorem chk2 : chkP rootV 8 (prfD 2) = 0 := chk_of 5 (by decide) _ _ _ rights5_ rfl (by decide) top2
theorem top3 : sumB (rootB 8 (sumB (TM.lastB (TM.climbF sumB [true, false, false] (pathOf 6) [TM.leafB (evBytes (evAt 3))])))) = rootV := by kernel_rfl
theorem chk3 : chkP rootV 8 (prfD 3) = 0 := chk_of 6 (by decide) _ _ _ rights6_ rfl (by decide) top3
theorem top4 : sumB (rootB 8 (sumB (TM.lastB (TM.climbF sumB [false, false, false] (pathOf 7) [TM.leafB (evBytes (evAt 4))])))) = rootV := by kernel_rfl
theorem chk4 : chkP rootV 8 (prfD 4) = 0 := chk_of 7 (by decide) _ _ _ rights7_ rfl (by decide) top4
theorem may_certL : certB certL = true := by kernel_rfl
theorem proved_certL : lnProved certL rootV = 0 := by
 unfold lnProved
 rw [may_certL, if_pos rfl, if_pos (show certL.root = rootV from rfl)]
 show (if prLoop rootV 8 (-1) [prfD 0, prfD 1, prfD 2, prfD 3, prfD 4] = true then 0 else 14) = (0 : Int)
 rw [if_pos]
 simp only [prLoop_cons, chk0, chk1, chk2, chk3, chk4]
 rfl
theorem proved_x : lnProved certL ⟨#[120]⟩ = 13 := by
 unfold lnProved
 rw [may_certL, if_pos rfl, if_neg]
 intro h
 have := congrArg ByteArray.size h
 exact absurd this (by decide)
theorem round_certL : lnRound 1 proofsL ringL = true := by kernel_rfl
theorem check_certL (bb : Bool) : checkV (lnProved certL rootV) false 0 0 2 bb (lnRound 1 proofsL ringL) = 0 := by
 rw [proved_certL, round_certL]; rfl
theorem check_x (bb : Bool) : checkV (lnProved certL ⟨#[120]⟩) false 0 0 2 bb (lnRound 1 proofsL ringL) = 13 := by
 rw [proved_x]; rfl
end Go.Proofs.YtjlpjpjodhkpdaaGreatDoor
