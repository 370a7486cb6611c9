/- cartoucheref02: order, figure. -/
import Derived.Test.YtocfaglcaefnoaaDoorRefStart
import Derived.Test.YtocfaglcaefnoaaDoorHex
set_option linter.unusedVariables false
set_option linter.unusedSimpArgs false
namespace Go.Proofs.YtocfaglcaefnoaaDoor
open Go.RowKit

/-- A round's order, as figures. -/
def figsL (r : Nat) : List UInt8 := (orders.getD r []).map fun n => digs.data.getD n 0
def figs (r : Nat) : ByteArray := ⟨(figsL r).toArray⟩
theorem figs_size : ∀ r, r < 10 → (figs r).size = 16 := by decide
theorem figs_at : ∀ r, r < 10 → ∀ i, i < 16 → (figs r).data.getD i 0 = digs.data.getD (od r i) 0 := by decide +kernel

set_option maxHeartbeats 1000000 in
theorem order_any (r : Nat) (hr : r < 10) (w : World) :
    Calls Tryd.prog 25 #[.int .i64 r] w fun e w' => e = .returned (.string (figs r)) ∧ Below w.heap.size w w' := by
  rcases (show r = 0 ∨ r = 1 ∨ r = 2 ∨ r = 3 ∨ r = 4 ∨ r = 5 ∨ r = 6 ∨ r = 7 ∨ r = 8 ∨ r = 9 by omega) with rfl | rfl | rfl | rfl | rfl | rfl | rfl | rfl | rfl | rfl
  all_goals
    go_enter Tryd.func25, Tryd.ntmps25
    go_wp2
    go_ret
    exact ⟨rfl, (Below.refl _ _).alloc (Nat.le_refl _) _⟩

set_option maxHeartbeats 1000000 in
theorem figure_any (n : Nat) (hn : n < 16) (c : Int) (hc : c = ((digs.data.getD n 0).toNat : Int)) (w : World) :
    Calls Tryd.prog 26 #[.int .u8 c] w fun e w' => e = .returned (.int .i64 n) ∧ w = w' := by
  subst hc
  rcases (show n = 0 ∨ n = 1 ∨ n = 2 ∨ n = 3 ∨ n = 4 ∨ n = 5 ∨ n = 6 ∨ n = 7 ∨ n = 8 ∨ n = 9 ∨ n = 10 ∨ n = 11 ∨ n = 12 ∨ n = 13 ∨ n = 14 ∨ n = 15 by omega) with rfl | rfl | rfl | rfl | rfl | rfl | rfl | rfl | rfl | rfl | rfl | rfl | rfl | rfl | rfl | rfl
  all_goals
    go_enter Tryd.func26, Tryd.ntmps26
    go_wp2
    go_ret
    exact ⟨rfl, rfl⟩
end Go.Proofs.YtocfaglcaefnoaaDoor
