/- tree.half: the greatest power of two below a number; in the form that the print takes. -/
import Derived.Test.YtlcmpmodfkmfnaaDoorBase
import Derived.Test.YtlcmpmodfkmfnaaDoorTreeM
import Derived.Test.YtlcmpmodfkmfnaaDoorWWords
import Derived.Lib.Hide
import Derived.WalkSpells
set_option linter.unusedVariables false
set_option linter.unusedSimpArgs false
namespace Go.Proofs.YtlcmpmodfkmfnaaDoor
open Go.RowKit Go.Proofs.YtlcmpmodfkmfnaaDoorW.PrintWords

def tree_half.f (n : Int) : Option Int := if 0 ≤ n ∧ n ≤ 2305843009213693952 then some (TM.halfN n.toNat : Int) else none
set_option maxHeartbeats 1000000 in
set_option maxRecDepth 100000 in
theorem half_any (n : Nat) (hn : n ≤ 2305843009213693952) (w : World) :
    Calls Tryd.prog 58 #[.int .i64 (n : Int)] w fun e w' => e = .returned (.int .i64 (TM.halfN n : Int)) ∧ Below w.heap.size w w' := by
  have hB := Below.refl w.heap.size w
  obtain ⟨r, hr⟩ : ∃ r, r = TM.halfN n := ⟨_, rfl⟩
  rw [← hr]
  have HR : Hid (TM.halfFrom 1 n = r) := Lib.hid hr.symm
  clear hr
  go_enter Tryd.func58, Tryd.ntmps58
  go_wp2
  go_loopw [3] (fun x u => ∃ j : Nat, 0 < j ∧ j ≤ n + 1 ∧ x = .int .i64 (j : Int) ∧ Hid (TM.halfFrom j n = r) ∧ Below w.heap.size w u) (fun x _ => n + 1 - (intOf x).toNat)
  case atStart => exact ⟨1, by omega, by omega, rfl, HR, hB⟩
  case round =>
    clear hB HR
    obtain ⟨j, h0, hj, rfl, HR, hB⟩ := hrel
    have hE := HR.out
    rw [TM.halfFrom] at hE
    by_cases hc : 2 * j < n
    · rw [if_pos ⟨h0, hc⟩] at hE
      have HE := Lib.hid hE
      clear hE HR
      have hd : decide (2 * (j : Int) < (n : Int)) = true := by simp; omega
      go_wp2
      go_roundw
      case rel => exact ⟨2 * j, by omega, by omega, by go_num, HE, hB⟩
      case measure => simp [intOf]; omega
    · rw [if_neg (fun h => hc h.2)] at hE
      subst hE
      clear HR
      have hd : decide (2 * (j : Int) < (n : Int)) = false := by simp; omega
      go_wp2
      go_ret
      exact ⟨rfl, hB⟩
theorem tree_half.calls (a0 : Int) (r : Int) (w : World) (h : tree_half.f a0 = some r) :
    Calls Tryd.prog 58 #[.int .i64 a0] w fun e w' => e = .returned (.int .i64 r) ∧ Below w.heap.size w w' := by
  unfold tree_half.f at h
  by_cases hs : 0 ≤ a0 ∧ a0 ≤ 2305843009213693952
  · rw [if_pos hs] at h
    obtain rfl := Option.some.inj h
    have := half_any a0.toNat (by omega) w
    rw [Int.toNat_of_nonneg hs.1] at this
    exact this
  · rw [if_neg hs] at h
    cases h
end Go.Proofs.YtlcmpmodfkmfnaaDoor
