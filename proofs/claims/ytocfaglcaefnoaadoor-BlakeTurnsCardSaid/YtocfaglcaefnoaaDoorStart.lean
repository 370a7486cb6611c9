/- blake.Start, and blake.Block of another length. -/
import Derived.Test.YtocfaglcaefnoaaDoorBlock
set_option linter.unusedVariables false
set_option linter.unusedSimpArgs false
namespace Go.Proofs.YtocfaglcaefnoaaDoor
open Go.RowKit

def startL (key : Int) : List Int := begins.set 0 (xr 1779033703 (xr 16842784 (key * 256)))
theorem startL_length (key : Int) : (startL key).length = 8 := by simp [startL, begins]
def bpart (k : Nat) : List Int := begins.take k ++ List.replicate (8 - k) 0
theorem bpart_next (k : Nat) (hk : k < 8) : (bpart k).set k (begins.getD k 0) = bpart (k + 1) := part_set begins k 8 rfl hk
theorem bpart_length (k : Nat) (hk : k ≤ 8) : (bpart k).length = 8 := by simp [bpart, begins]; omega
def zero8 : Array Value := #[.int .u32 0, .int .u32 0, .int .u32 0, .int .u32 0, .int .u32 0, .int .u32 0, .int .u32 0, .int .u32 0]

set_option maxHeartbeats 1000000 in
theorem start_ok (key : Int) (h0 : 0 ≤ key) (h1 : key ≤ 32) (w : World) (hT : Tabs w) :
    Calls Tryd.prog 12 #[.int .i64 key] w fun e w' =>
      e = .returned (.tuple #[.agg (u32s (startL key)).toArray, .int .i64 0]) ∧ Below w.heap.size w w' := by
  go_enter Tryd.func12, Tryd.ntmps12
  go_wp2
  have r1 := (RowIs.new w 24 (u32s (bpart 0))).alloc (.cells (u32s (bpart 0)).toArray 24)
  have r2 := RowIs.new (w.alloc (.cells (u32s (bpart 0)).toArray 24)) 24 (u32s (bpart 0))
  have hb := ((Below.refl w.heap.size w).alloc (Nat.le_refl _) (.cells (u32s (bpart 0)).toArray 24)).alloc (by simp) (.cells (u32s (bpart 0)).toArray 24)
  rw [World.size_alloc] at r2
  have e0 : (u32s (bpart 0)).toArray = #[.int .u32 0, .int .u32 0, .int .u32 0, .int .u32 0, .int .u32 0, .int .u32 0, .int .u32 0, .int .u32 0] := rfl
  rw [e0] at r1 r2 hb
  clear e0
  generalize World.alloc _ _ = W at *
  go_loopw [13] (fun c u => ∃ k : Nat, k ≤ 8 ∧ c = .int .i64 k ∧ RowIs u w.heap.size 24 (u32s (bpart 0)) ∧ RowIs u (w.heap.size + 1) 24 (u32s (bpart k)) ∧ Below w.heap.size w u) (fun c _ => 8 - (intOf c).toNat)
  case atStart => exact ⟨0, by omega, rfl, r1, r2, hb⟩
  case round =>
    clear r1 r2 hb
    obtain ⟨k, hk, rfl, q1, q2, q3⟩ := hrel
    by_cases hlt : k < 8
    · have c0 := (hT.below q3 hT.size).begin k hlt
      have c1 := q2.cell (u32s_get _ k (by rw [bpart_length k hk]; exact hlt))
      have f1 := q2.frozen k
      have g1 := q2.set k (.int .u32 (begins.getD k 0))
      rw [u32s_set, bpart_next k hlt] at g1
      have g0 := q1.other (a := ⟨w.heap.size + 1, k, none⟩) (by simp) (.int .u32 (begins.getD k 0))
      have g2 := q3.setCell (p := ⟨w.heap.size + 1, k, none⟩) (by simp) (.int .u32 (begins.getD k 0))
      clear q1 q2 q3
      generalize begins.getD k 0 = z at *
      go_wp2
      go_roundw
      case rel => exact ⟨k + 1, by omega, by go_num, g0, g1, g2⟩
      case measure => simp [intOf]; omega
    · obtain rfl : k = 8 := by omega
      have hbg : bpart 8 = [1779033703, 3144134277, 1013904242, 2773480762, 1359893119, 2600822924, 528734635, 1541459225] := rfl
      have hz : bpart 0 = [0, 0, 0, 0, 0, 0, 0, 0] := rfl
      rw [hbg] at q2
      rw [hz] at q1
      clear hbg hz
      have z0 := q2.cell (i := 0) rfl; have y0 := q1.cell (i := 0) rfl; have f0 := q1.frozen 0; have k0 := q2.frozen 0
      have z1 := q2.cell (i := 1) rfl; have y1 := q1.cell (i := 1) rfl; have f1 := q1.frozen 1
      have z2 := q2.cell (i := 2) rfl; have y2 := q1.cell (i := 2) rfl; have f2 := q1.frozen 2
      have z3 := q2.cell (i := 3) rfl; have y3 := q1.cell (i := 3) rfl; have f3 := q1.frozen 3
      have z4 := q2.cell (i := 4) rfl; have y4 := q1.cell (i := 4) rfl; have f4 := q1.frozen 4
      have z5 := q2.cell (i := 5) rfl; have y5 := q1.cell (i := 5) rfl; have f5 := q1.frozen 5
      have z6 := q2.cell (i := 6) rfl; have y6 := q1.cell (i := 6) rfl; have f6 := q1.frozen 6
      have z7 := q2.cell (i := 7) rfl; have y7 := q1.cell (i := 7) rfl; have f7 := q1.frozen 7
      clear q1 q2
      go_wp2
      refine bodyPost_ret (v := .tuple #[.agg (u32s (startL key)).toArray, .int .i64 0]) (by simp [results, Tryd.results12, go_sem, y0, y1, y2, y3, y4, y5, y6, y7]; rfl) rfl ⟨rfl, ?_⟩
      repeat (refine Below.setCell ?_ (by simp) _)
      exact q3

set_option maxHeartbeats 1000000 in
theorem start_no (key : Int) (h : key < 0 ∨ 32 < key) (w : World) :
    Calls Tryd.prog 12 #[.int .i64 key] w fun e w' =>
      e = .returned (.tuple #[.agg zero8, .int .i64 1]) ∧ Below w.heap.size w w' := by
  rcases h with h | h
  · go_enter Tryd.func12, Tryd.ntmps12
    go_wp2
    refine bodyPost_ret (v := .tuple #[.agg zero8, .int .i64 1]) (by simp [results, Tryd.results12, go_sem]; rfl) rfl ⟨rfl, ?_⟩
    repeat (first | exact (Below.refl _ _).alloc (Nat.le_refl _) _ | refine Below.setCell ?_ (by simp) _)
  · have h' : ¬ key < 0 := by omega
    go_enter Tryd.func12, Tryd.ntmps12
    go_wp2
    refine bodyPost_ret (v := .tuple #[.agg zero8, .int .i64 1]) (by simp [results, Tryd.results12, go_sem]; rfl) rfl ⟨rfl, ?_⟩
    repeat (first | exact (Below.refl _ _).alloc (Nat.le_refl _) _ | refine Below.setCell ?_ (by simp) _)

set_option maxHeartbeats 1000000 in
theorem block_no (h : List Int) (s : ByteArray) (hs : ¬ s.size = 64) (t : Int) (last : Bool) (w : World) :
    Calls Tryd.prog 14 #[.agg (u32s h).toArray, .string s, .int .u64 t, .bool last] w fun e w' =>
      e = .returned (.tuple #[.agg zero8, .int .i64 1]) ∧ Below w.heap.size w w' := by
  have b1 : ((s.size : Int) != 64) = true := by rw [bne_iff_ne]; omega
  go_enter Tryd.func14, Tryd.ntmps14
  go_wp2
  refine bodyPost_ret (v := .tuple #[.agg zero8, .int .i64 1]) (by simp [results, Tryd.results14, go_sem]; rfl) rfl ⟨rfl, ?_⟩
  repeat (first | exact ((Below.refl _ _).alloc (Nat.le_refl _) _).alloc (by simp) _ | refine Below.setCell ?_ (by simp) _)
end Go.Proofs.YtocfaglcaefnoaaDoor
