/- redact.inputs and the closures that it is given. -/
import Derived.Test.YtbckobokiioeaaaDoorTwinsF
import Derived.Laws.EntriesVeiled
set_option linter.unusedVariables false
set_option linter.unusedSimpArgs false
namespace Go.Proofs.YtbckobokiioeaaaDoor
open Go.RowKit Go.Proofs.YtbckobokiioeaaaDoor.Q Go.Proofs.YtbckobokiioeaaaDoorW.PrintWords

set_option maxHeartbeats 1000000 in
theorem tw1_any (x : Evt) (w : World) : Calls Tryd.prog 37 #[.agg #[.int .i64 x.f0, .int .i64 x.f1, .string x.f2, .string x.f3]] w fun e w' => e = .returned (.func (.func 29) #[.agg #[.int .i64 x.f0, .int .i64 x.f1, .string x.f2, .string x.f3]] #[]) ∧ Below w.heap.size w w' := by
  have HB := Lib.hid ((Below.refl w.heap.size w).alloc (Nat.le_refl _) (.cells #[.int .i64 x.f0, .int .i64 x.f1, .string x.f2, .string x.f3] 58))
  have hc0 := (RowIs.new w 58 [.int .i64 x.f0, .int .i64 x.f1, .string x.f2, .string x.f3]).cell (i := 0) rfl
  have hc1 := (RowIs.new w 58 [.int .i64 x.f0, .int .i64 x.f1, .string x.f2, .string x.f3]).cell (i := 1) rfl
  have hc2 := (RowIs.new w 58 [.int .i64 x.f0, .int .i64 x.f1, .string x.f2, .string x.f3]).cell (i := 2) rfl
  have hc3 := (RowIs.new w 58 [.int .i64 x.f0, .int .i64 x.f1, .string x.f2, .string x.f3]).cell (i := 3) rfl
  go_enter Tryd.func37, Tryd.ntmps37
  go_wp2
  go_ret
  exact ⟨rfl, HB.out⟩
set_option maxHeartbeats 1000000 in
theorem tw2_any (x : Evt) (w : World) : Calls Tryd.prog 38 #[.agg #[.int .i64 x.f0, .int .i64 x.f1, .string x.f2, .string x.f3]] w fun e w' => e = .returned (.func (.func 31) #[.agg #[.int .i64 x.f0, .int .i64 x.f1, .string x.f2, .string x.f3]] #[]) ∧ Below w.heap.size w w' := by
  have HB := Lib.hid ((Below.refl w.heap.size w).alloc (Nat.le_refl _) (.cells #[.int .i64 x.f0, .int .i64 x.f1, .string x.f2, .string x.f3] 58))
  have hc0 := (RowIs.new w 58 [.int .i64 x.f0, .int .i64 x.f1, .string x.f2, .string x.f3]).cell (i := 0) rfl
  have hc1 := (RowIs.new w 58 [.int .i64 x.f0, .int .i64 x.f1, .string x.f2, .string x.f3]).cell (i := 1) rfl
  have hc2 := (RowIs.new w 58 [.int .i64 x.f0, .int .i64 x.f1, .string x.f2, .string x.f3]).cell (i := 2) rfl
  have hc3 := (RowIs.new w 58 [.int .i64 x.f0, .int .i64 x.f1, .string x.f2, .string x.f3]).cell (i := 3) rfl
  go_enter Tryd.func38, Tryd.ntmps38
  go_wp2
  go_ret
  exact ⟨rfl, HB.out⟩
set_option maxHeartbeats 1000000 in
/-- The iterator over a history's inputs: two boxes, then its closure. -/
theorem inputs_any (hv fv : Value) (w : World) (hh : ∃ A n c, hv = .slice A n c) (hf : ∃ k, fv = .func (.func k) #[] #[]) : Calls Tryd.prog 36 #[hv, fv] w fun e w' =>
    e = .returned (.func (.func 48) #[] #[.pointer (some ⟨w.heap.size, 0, none⟩), .pointer (some ⟨w.heap.size + 1, 0, none⟩)]) ∧ w' = (w.alloc (.cells #[hv] 22)).alloc (.cells #[fv] 64) := by
  obtain ⟨A, n, c, rfl⟩ := hh
  obtain ⟨k, rfl⟩ := hf
  go_enter Tryd.func36, Tryd.ntmps36
  go_wp2
  go_ret
  exact ⟨by simp, rfl⟩
end Go.Proofs.YtbckobokiioeaaaDoor
