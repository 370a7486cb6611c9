/- The small functions that redact.inputs' iterator calls, inside a fence. -/
import Derived.Test.YtbckobokiioeaaaDoorTwIn
import Derived.RangeFuncNested
import Derived.RangeFuncBound
import Derived.RangeFuncCalls
import Derived.RangeFuncLeaves
import Derived.Shelf.Abstract
import Derived.Shelf.RegionOpen
import Derived.WalkKit
import Derived.OwnWalkIn
import Derived.TacticsInMore
import Derived.LoopNIn
import Derived.LoopIn
import Derived.Maps.AppendAt
set_option linter.unusedVariables false
set_option linter.unusedSimpArgs false
namespace Go.Proofs.YtbckobokiioeaaaDoor
open Go.RowKit Go.Proofs.YtbckobokiioeaaaDoor.Q Go.Proofs.YtbckobokiioeaaaDoorW.PrintWords

def evV (x : Evt) : Value := .agg #[.int .i64 x.f0, .int .i64 x.f1, .string x.f2, .string x.f3]
/-- Rewritten so that the walk reads a box's four cells. -/
theorem box4 (w : World) (x : Evt) (t : Nat) : (w.alloc (.cells #[.int .i64 x.f0, .int .i64 x.f1, .string x.f2, .string x.f3] t)).cell? ⟨w.heap.size, 0, none⟩ = some (.int .i64 x.f0) ∧ (w.alloc (.cells #[.int .i64 x.f0, .int .i64 x.f1, .string x.f2, .string x.f3] t)).cell? ⟨w.heap.size, 1, none⟩ = some (.int .i64 x.f1) ∧ (w.alloc (.cells #[.int .i64 x.f0, .int .i64 x.f1, .string x.f2, .string x.f3] t)).cell? ⟨w.heap.size, 2, none⟩ = some (.string x.f2) ∧ (w.alloc (.cells #[.int .i64 x.f0, .int .i64 x.f1, .string x.f2, .string x.f3] t)).cell? ⟨w.heap.size, 3, none⟩ = some (.string x.f3) :=
  have h := RowIs.new w t [.int .i64 x.f0, .int .i64 x.f1, .string x.f2, .string x.f3]
  ⟨h.cell (i := 0) rfl, h.cell (i := 1) rfl, h.cell (i := 2) rfl, h.cell (i := 3) rfl⟩
set_option maxHeartbeats 1000000 in
theorem tw1_in (F : Fence) (m : Nat) (hf : F.fn 37) (hro : F.round = none) (x : Evt) (w : World) : CallsIn F m Tryd.prog 37 #[.agg #[.int .i64 x.f0, .int .i64 x.f1, .string x.f2, .string x.f3]] w fun e w' => e = .returned (.func (.func 29) #[.agg #[.int .i64 x.f0, .int .i64 x.f1, .string x.f2, .string x.f3]] #[]) ∧ w.grownBy w' none := by
  have HB := Lib.hid (World.grownBy_alloc w (.cells #[.int .i64 x.f0, .int .i64 x.f1, .string x.f2, .string x.f3] 58) none)
  obtain ⟨hc0, hc1, hc2, hc3⟩ := box4 w x 58
  refine callsIn_of_wp Tryd.func37 rfl hf ?_ hro
  simp only [Tryd.ntmps37, List.size_toArray, List.length_cons, List.length_nil, Nat.reduceAdd, Nat.reduceSub, Array.replicate_succ, Array.replicate_zero, List.push_toArray, List.append_toArray, List.nil_append, List.cons_append]
  gi_wp2
  go_ret
  exact ⟨rfl, HB.out⟩
set_option maxHeartbeats 1000000 in
theorem tw2_in (F : Fence) (m : Nat) (hf : F.fn 38) (hro : F.round = none) (x : Evt) (w : World) : CallsIn F m Tryd.prog 38 #[.agg #[.int .i64 x.f0, .int .i64 x.f1, .string x.f2, .string x.f3]] w fun e w' => e = .returned (.func (.func 31) #[.agg #[.int .i64 x.f0, .int .i64 x.f1, .string x.f2, .string x.f3]] #[]) ∧ w.grownBy w' none := by
  have HB := Lib.hid (World.grownBy_alloc w (.cells #[.int .i64 x.f0, .int .i64 x.f1, .string x.f2, .string x.f3] 58) none)
  obtain ⟨hc0, hc1, hc2, hc3⟩ := box4 w x 58
  refine callsIn_of_wp Tryd.func38 rfl hf ?_ hro
  simp only [Tryd.ntmps38, List.size_toArray, List.length_cons, List.length_nil, Nat.reduceAdd, Nat.reduceSub, Array.replicate_succ, Array.replicate_zero, List.push_toArray, List.append_toArray, List.nil_append, List.cons_append]
  gi_wp2
  go_ret
  exact ⟨rfl, HB.out⟩
set_option maxHeartbeats 1000000 in
theorem key_in (F : Fence) (m : Nat) (hf : F.fn 29) (hro : F.round = none) (x : Evt) (hx : x.f2.size ≤ 140737488351232) (w : World) : CallsIn F m Tryd.prog 29 #[.agg #[.int .i64 x.f0, .int .i64 x.f1, .string x.f2, .string x.f3]] w fun e w' => e = .returned (.string ((⟨#[5]⟩ : ByteArray) ++ x.f2)) ∧ w.grownBy w' none := by
  have HB := Lib.hid (World.grownBy_alloc w (.cells #[.int .i64 x.f0, .int .i64 x.f1, .string x.f2, .string x.f3] 58) none)
  obtain ⟨hc0, hc1, hc2, hc3⟩ := box4 w x 58
  have c2 : (1 + x.f2.size ≤ 9223372036854775807) = True := eq_true (by omega)
  have c3 : (9223372036854775807 < 1 + x.f2.size) = False := eq_false (by omega)
  refine callsIn_of_wp Tryd.func29 rfl hf ?_ hro
  simp only [Tryd.ntmps29, List.size_toArray, List.length_cons, List.length_nil, Nat.reduceAdd, Nat.reduceSub, Array.replicate_succ, Array.replicate_zero, List.push_toArray, List.append_toArray, List.nil_append, List.cons_append]
  gi_wp2
  go_ret
  exact ⟨rfl, HB.out⟩
set_option maxHeartbeats 1000000 in
theorem val_in (F : Fence) (m : Nat) (hf : F.fn 31) (hro : F.round = none) (x : Evt) (hx : x.f3.size ≤ 140737488351232) (w : World) : CallsIn F m Tryd.prog 31 #[.agg #[.int .i64 x.f0, .int .i64 x.f1, .string x.f2, .string x.f3]] w fun e w' => e = .returned (.string ((⟨#[6]⟩ : ByteArray) ++ x.f3)) ∧ w.grownBy w' none := by
  have HB := Lib.hid (World.grownBy_alloc w (.cells #[.int .i64 x.f0, .int .i64 x.f1, .string x.f2, .string x.f3] 58) none)
  obtain ⟨hc0, hc1, hc2, hc3⟩ := box4 w x 58
  have c2 : (1 + x.f3.size ≤ 9223372036854775807) = True := eq_true (by omega)
  have c3 : (9223372036854775807 < 1 + x.f3.size) = False := eq_false (by omega)
  refine callsIn_of_wp Tryd.func31 rfl hf ?_ hro
  simp only [Tryd.ntmps31, List.size_toArray, List.length_cons, List.length_nil, Nat.reduceAdd, Nat.reduceSub, Array.replicate_succ, Array.replicate_zero, List.push_toArray, List.append_toArray, List.nil_append, List.cons_append]
  gi_wp2
  go_ret
  exact ⟨rfl, HB.out⟩
end Go.Proofs.YtbckobokiioeaaaDoor
