/- lump.Num: a number's bytes; in the form that the print takes. -/
import Derived.Test.YtlcmpmodfkmfnaaDoorBase
import Derived.Test.YtlcmpmodfkmfnaaDoorWWords
import Derived.Lib.Hide
import Derived.WalkSpells
set_option linter.unusedVariables false
set_option linter.unusedSimpArgs false
namespace Go.Proofs.YtlcmpmodfkmfnaaDoor
open Go.RowKit Go.Proofs.YtlcmpmodfkmfnaaDoorW.PrintWords

/-- The k lowest bytes, the highest first. -/
def beL (v : Nat) : Nat → List Int
  | 0 => []
  | k + 1 => ((v / 256 ^ k % 256 : Nat) : Int) :: beL v k
theorem beL_length (v k : Nat) : (beL v k).length = k := by
  induction k with
  | zero => rfl
  | succ k ih => simp [beL, ih]
/-- How many bytes a number has. -/
def nb (v : Nat) : Nat := if v < 1 then 0 else if v < 256 then 1 else if v < 65536 then 2 else if v < 16777216 then 3 else if v < 4294967296 then 4 else if v < 1099511627776 then 5 else if v < 281474976710656 then 6 else if v < 72057594037927936 then 7 else 8
/-- A number's bytes. -/
def numL (v : Nat) : List Int := (nb v : Int) :: beL v (nb v)
def numB (v : Nat) : ByteArray := strOfNums (numL v)
theorem nb_le (v : Nat) : nb v ≤ 8 := by
  unfold nb
  repeat' split
  all_goals omega
/-- The cells when i + 1 are left. -/
def rowN (v i : Nat) : List Int := List.replicate (i + 1) 0 ++ beL v (8 - i)
theorem rowN_length (v i : Nat) (h : i ≤ 8) : (rowN v i).length = 9 := by
  simp [rowN, beL_length]; omega
theorem rowN_set (v i : Nat) (h : i < 8) : (rowN v (i + 1)).set (i + 1) ((v / 256 ^ (8 - (i + 1)) % 256 : Nat) : Int) = rowN v i := by
  have e : 8 - i = (8 - (i + 1)) + 1 := by omega
  unfold rowN
  rw [e, beL, List.replicate_succ' (n := i + 1), List.append_assoc, List.set_append_right _ _ (by simp)]
  simp
theorem rowN_end (v i : Nat) (h : i ≤ 8) (x : Int) : (rowN v i).set i x = List.replicate i 0 ++ x :: beL v (8 - i) := by
  unfold rowN
  rw [List.replicate_succ', List.append_assoc, List.set_append_right _ _ (by simp)]
  simp
theorem nb_of (v i : Nat) (hv : v < 18446744073709551616) (h : i ≤ 8) (h0 : v / 256 ^ (8 - i) = 0) (h1 : i < 8 → 0 < v / 256 ^ (8 - i - 1)) : 8 - i = nb v := by
  unfold nb
  rcases (show i = 0 ∨ i = 1 ∨ i = 2 ∨ i = 3 ∨ i = 4 ∨ i = 5 ∨ i = 6 ∨ i = 7 ∨ i = 8 by omega) with rfl | rfl | rfl | rfl | rfl | rfl | rfl | rfl | rfl
  all_goals
    simp only [Nat.reduceSub, Nat.reducePow, Nat.reduceLT, forall_const, Nat.lt_irrefl, false_implies] at h0 h1
    repeat' split
    all_goals omega
theorem div_next (v i : Nat) (h : i < 8) : v / 256 ^ (8 - (i + 1)) / 256 = v / 256 ^ (8 - i) := by
  rw [Nat.div_div_eq_div_mul, ← Nat.pow_succ, show Nat.succ (8 - (i + 1)) = 8 - i by omega]
theorem add_at (g i j : Nat) : (⟨g, i, none⟩ : Addr).add j = ⟨g, i + j, none⟩ := by unfold Addr.add; split <;> simp_all
theorem size9 : (Tryd.prog.info? 97).map (·.size) = some 9 := by kernel_rfl

set_option maxHeartbeats 1000000 in
set_option maxRecDepth 100000 in
theorem num_any (v : Nat) (hv : v < 18446744073709551616) (w : World) :
    Calls Tryd.prog 60 #[.int .u64 v] w fun e w' => e = .returned (.string (numB v)) ∧ Below w.heap.size w w' := by
  have HV := Lib.hid hv
  clear hv
  go_enter Tryd.func60, Tryd.ntmps60
  go_wp2
  have hR := RowIs.new w 97 (u8s (rowN v 8))
  have hB := (Below.refl w.heap.size w).alloc (Nat.le_refl _) (.cells (u8s (rowN v 8)).toArray 97)
  have e0 : (u8s (rowN v 8)).toArray = #[.int .u8 0, .int .u8 0, .int .u8 0, .int .u8 0, .int .u8 0, .int .u8 0, .int .u8 0, .int .u8 0, .int .u8 0] := rfl
  rw [e0] at hR hB
  clear e0
  generalize World.alloc _ _ = W at *
  have hp0 : Hid ((8 : Nat) < 8 → 0 < v / 256 ^ (8 - 8 - 1)) := Lib.hid (fun h => absurd h (by omega))
  go_loopw [0, 4] (fun x c u => ∃ i : Nat, i ≤ 8 ∧ x = .int .u64 ((v / 256 ^ (8 - i) : Nat) : Int) ∧ c = .int .i64 ((i : Int) + 1) ∧ Hid (i < 8 → 0 < v / 256 ^ (8 - i - 1)) ∧ RowIs u w.heap.size 97 (u8s (rowN v i)) ∧ Below w.heap.size w u) (fun _ c _ => (intOf c).toNat)
  case atStart => exact ⟨8, by omega, by simp, rfl, hp0, hR, hB⟩
  case round =>
    clear hR hB hp0
    obtain ⟨i, hi, rfl, rfl, hp, hR, hB⟩ := hrel
    by_cases h0 : v / 256 ^ (8 - i) = 0
    · have HI := Lib.hid (nb_of v i HV.out hi h0 hp.out)
      rw [h0]
      clear h0 hp
      have hfz := hR.frozen i
      have hcl := hR.cell (i := i) (u8s_get (rowN v i) i (by rw [rowN_length v i hi]; omega))
      have hsl : ∀ W, (Instr.sliceAt 97 (.pointer (some ⟨w.heap.size, 0, none⟩)) (some (.int .i64 (i : Int))) none none).run Tryd.prog W = .ok (.slice (some ⟨w.heap.size, i, none⟩) (9 - i) (9 - i)) W := fun W => by
        have hal : Tryd.prog.arrayLen 97 = 9 := by kernel_rfl
        rw [run_sliceAt_array_l W 97 ⟨w.heap.size, 0, none⟩ (by simp [Program.arrayLen, Program.elem, Tryd.underlying97]) .i64 (i : Int) (by omega) (by rw [hal]; omega), hal]
        have hel : Tryd.prog.elem 97 = 5 := by simp [Program.elem, Tryd.underlying97]
        have hne : 9 ≠ i := by omega
        rw [hel, Tryd.sizeOf5 W]
        simp [Result.andThen, slicedAt, hne, add_plain]
      have hcv : (convert 90 9 (.slice (some ⟨w.heap.size, i, none⟩) (9 - i) (9 - i))).run Tryd.prog (wr.setCell ⟨w.heap.size, i, none⟩ (.int .u8 (8 - (i : Int)))) = .ok (.string (numB v)) (wr.setCell ⟨w.heap.size, i, none⟩ (.int .u8 (8 - (i : Int)))) := by
        have hr : ReadsInt (wr.setCell ⟨w.heap.size, i, none⟩ (.int .u8 (8 - (i : Int)))) .u8 (some ⟨w.heap.size, i, none⟩) (9 - i) (numL v) := by
          refine ⟨by unfold numL; rw [List.length_cons, beL_length, ← HI.out]; omega, by omega, fun _ => ⟨_, rfl, fun j hj => ?_⟩⟩
          rw [add_at]
          have hset := hR.set i (.int .u8 (8 - (i : Int)))
          have e : (u8s (rowN v i)).set i (.int .u8 (8 - (i : Int))) = u8s (List.replicate i 0 ++ numL v) := by
            have h2 := rowN_end v i hi (8 - (i : Int))
            unfold numL
            rw [← HI.out, show ((8 - i : Nat) : Int) = 8 - (i : Int) by omega, ← h2]
            simp [u8s, List.map_set]
          rw [e] at hset
          have hlen : (List.replicate i (0 : Int) ++ numL v).length = 9 := by
            unfold numL
            rw [List.length_append, List.length_replicate, List.length_cons, beL_length, ← HI.out]
            omega
          rw [hset.cell (u8s_get _ (i + j) (by rw [hlen]; omega))]
          congr 2
          rw [List.getD_eq_getElem?_getD, List.getD_eq_getElem?_getD, List.getElem?_append_right (by simp), List.length_replicate, Nat.add_sub_cancel_left]
        exact Kd.C_string Tryd.underlying90 Tryd.underlying5 Tryd.underlying9 (Kd.C_of_reads (d := (0 : Int)) (h1 := fun _ => rfl) hr)
      have hB2 : Below w.heap.size w (wr.setCell ⟨w.heap.size, i, none⟩ (.int .u8 (8 - (i : Int)))) := hB.setCell (Nat.le_refl _) _
      clear hR hB
      go_wp2
      go_ret
      exact ⟨rfl, hB2⟩
    · have hi0 : i ≠ 0 := by
        rintro rfl
        have := HV.out
        omega
      obtain ⟨i, rfl⟩ : ∃ j, i = j + 1 := ⟨i - 1, by omega⟩
      have hd := Lib.hid (div_next v i (by omega))
      have hs := Lib.hid (rowN_set v i (by omega))
      have hl := Lib.hid (rowN_length v (i + 1) hi)
      obtain ⟨x, hx⟩ : ∃ x, x = v / 256 ^ (8 - (i + 1)) := ⟨_, rfl⟩
      rw [← hx] at h0 hd hs ⊢
      have hx' := Lib.hid hx
      clear hx hp hi0
      have hx0 : (0 : Int) < (x : Int) := by omega
      clear h0
      have hfz := hR.frozen (i + 1)
      have hcl := hR.cell (i := i + 1) (u8s_get (rowN v (i + 1)) (i + 1) (by rw [hl.out]; omega))
      go_wp2
      have hR2 := hR.set (i + 1) (.int .u8 ((x : Int) % 256))
      have hB2 : Below w.heap.size w (wr.setCell ⟨w.heap.size, i + 1, none⟩ (.int .u8 ((x : Int) % 256))) := hB.setCell (Nat.le_refl _) _
      refine ⟨⟨i, by omega, ?_, rfl, Lib.hid (fun _ => ?_), ?_, hB2⟩, by simp [intOf]; omega⟩
      · rw [← hd.out]; rfl
      · rw [show 8 - i - 1 = 8 - (i + 1) by omega, ← hx'.out]; omega
      · have e : (u8s (rowN v (i + 1))).set (i + 1) (.int .u8 ((x : Int) % 256)) = u8s (rowN v i) := by
          rw [← hs.out]
          simp [u8s, List.map_set]
        rw [← e]
        exact hR2
def lump_Num.f (a0 : Int) : Option ByteArray := if 0 ≤ a0 ∧ a0 < 18446744073709551616 then some (numB a0.toNat) else none
theorem lump_Num.calls (a0 : Int) (r : ByteArray) (w : World) (h : lump_Num.f a0 = some r) :
    Calls Tryd.prog 60 #[.int .u64 a0] w fun e w' => e = .returned (.string r) ∧ Below w.heap.size w w' := by
  unfold lump_Num.f at h
  by_cases hs : 0 ≤ a0 ∧ a0 < 18446744073709551616
  · rw [if_pos hs] at h
    obtain rfl := Option.some.inj h
    have hn := num_any a0.toNat (by omega) w
    rw [Int.toNat_of_nonneg hs.1] at hn
    exact hn
  · rw [if_neg hs] at h
    cases h
end Go.Proofs.YtlcmpmodfkmfnaaDoor
