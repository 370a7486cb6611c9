/- WHAT blake.Block READS: the tables; the words of a block. -/
import Derived.Test.YtocfaglcaefnoaaDoorMath
import Derived.Test.YtocfaglcaefnoaaDoorRow
import Derived.Laws.BitsLemmas
set_option linter.unusedVariables false
set_option linter.unusedSimpArgs false
namespace Go.Proofs.YtocfaglcaefnoaaDoor
open Go.RowKit

/-- Above the tables. -/
def Lies (D : Nat) : Prop := 0 < D ∧ 1 < D ∧ 2 < D
/-- The program's tables lie as its text lays them. -/
structure Tabs (w : World) : Prop where
  size : Lies w.heap.size
  begin : ∀ i, i < 8 → w.cell? ⟨0, i, none⟩ = some (.int .u32 (begins.getD i 0))
  mixing : ∀ i j, i < 8 → j < 4 → w.cell? ⟨1, i * 4 + j, none⟩ = some (.int .u8 (mx i j))
  order : ∀ r j, r < 10 → j < 16 → w.cell? ⟨2, r * 16 + j, none⟩ = some (.int .u8 (od r j))
theorem Tabs.below {w u : World} {D : Nat} (h : Tabs w) (hb : Below D w u) (hD : Lies D) : Tabs u :=
  ⟨⟨Nat.lt_of_lt_of_le h.size.1 hb.size, Nat.lt_of_lt_of_le h.size.2.1 hb.size, Nat.lt_of_lt_of_le h.size.2.2 hb.size⟩, fun i hi => (hb.cell (p := ⟨_, _, none⟩) hD.1).trans (h.begin i hi), fun i j hi hj => (hb.cell (p := ⟨_, _, none⟩) hD.2.1).trans (h.mixing i j hi hj), fun r j hr hj => (hb.cell (p := ⟨_, _, none⟩) hD.2.2).trans (h.order r j hr hj)⟩
theorem Tabs.drewN {w : World} (h : Tabs w) (n : Nat) : Tabs (w.drewN n) := ⟨h.size, h.begin, h.mixing, h.order⟩
theorem mx_lt : ∀ i, i < 8 → ∀ j, j < 4 → mx i j < 16 := by decide
theorem od_lt : ∀ r, r < 10 → ∀ j, j < 16 → od r j < 16 := by decide

/-- Byte number j of a text. -/
def byt (s : ByteArray) (j : Nat) : Int := ((s.data.toList.getD j 0).toNat : Int)
theorem byt_range (s : ByteArray) (j : Nat) : 0 ≤ byt s j ∧ byt s j < 256 := by
  unfold byt
  have := (s.data.toList.getD j 0).toNat_lt
  omega
theorem byt_at (s : ByteArray) (j : Nat) (h : j < s.size) : ((s[j]'h).toNat : Int) = byt s j := by
  unfold byt
  rw [List.getD_eq_getElem?_getD, List.getElem?_eq_getElem (by rw [Array.length_toList]; exact h)]
  rfl
/-- The last n bytes of word i: n = 4: the word. -/
def wacc (s : ByteArray) (i : Nat) : Nat → Int
  | 0 => 0
  | n + 1 => wacc s i n * 256 + byt s (4 * i + (3 - n))
def word (s : ByteArray) (i : Nat) : Int := wacc s i 4
theorem wacc0 (s : ByteArray) (i : Nat) : wacc s i 0 = 0 := rfl
theorem wacc1 (s : ByteArray) (i : Nat) : wacc s i 1 = wacc s i 0 * 256 + byt s (4 * i + 3) := rfl
theorem wacc2 (s : ByteArray) (i : Nat) : wacc s i 2 = wacc s i 1 * 256 + byt s (4 * i + 2) := rfl
theorem wacc3 (s : ByteArray) (i : Nat) : wacc s i 3 = wacc s i 2 * 256 + byt s (4 * i + 1) := rfl
theorem wacc4 (s : ByteArray) (i : Nat) : wacc s i 4 = wacc s i 3 * 256 + byt s (4 * i) := rfl
theorem wacc_range (s : ByteArray) (i : Nat) : 0 ≤ wacc s i 0 ∧ wacc s i 0 < 1 ∧ 0 ≤ wacc s i 1 ∧ wacc s i 1 < 256 ∧ 0 ≤ wacc s i 2 ∧ wacc s i 2 < 65536 ∧ 0 ≤ wacc s i 3 ∧ wacc s i 3 < 16777216 ∧ 0 ≤ wacc s i 4 ∧ wacc s i 4 < 4294967296 := by
  have h0 := byt_range s (4 * i + 3)
  have h1 := byt_range s (4 * i + 2)
  have h2 := byt_range s (4 * i + 1)
  have h3 := byt_range s (4 * i)
  rw [wacc4, wacc3, wacc2, wacc1, wacc0]
  omega
theorem word_eq (s : ByteArray) (i : Nat) : word s i = byt s (4 * i) + 256 * byt s (4 * i + 1) + 65536 * byt s (4 * i + 2) + 16777216 * byt s (4 * i + 3) := by
  rw [word, wacc4, wacc3, wacc2, wacc1, wacc0]
  omega
theorem or_byte (a b : Int) (ha : 0 ≤ a) (ha' : a < 16777216) (hb : 0 ≤ b) (hb' : b < 256) : bits .or .u32 (a * 256 % 4294967296) b = a * 256 + b := by
  have h1 : a * 256 % 4294967296 = a * 256 := by omega
  rw [h1]
  exact bits_join .u32 32 (by decide) (fun n h0 h1 => by rw [IntKind.wrap_u32]; omega) 8 _ _ (by omega) (by omega) (by omega) hb (by omega) (by omega)
/-- The first k words, noughts behind them. -/
def mpart (s : ByteArray) (k : Nat) : List Int := (List.range k).map (word s) ++ List.replicate (16 - k) 0
def wordsL (s : ByteArray) : List Int := (List.range 16).map (word s)
theorem mpart_length (s : ByteArray) (k : Nat) (hk : k ≤ 16) : (mpart s k).length = 16 := by simp [mpart]; omega
theorem mpart_at (s : ByteArray) (k : Nat) (hk : k < 16) (x : Int) : ((mpart s k).set k x).getD k 0 = x := by
  rw [List.getD_eq_getElem?_getD, List.getElem?_set_self (by rw [mpart_length s k (by omega)]; exact hk)]; rfl
theorem mpart_zero (s : ByteArray) (k : Nat) : (mpart s k).set k 0 = mpart s k := by
  apply List.ext_getElem?
  intro i
  rw [List.getElem?_set]
  split
  · rename_i h
    subst h
    split
    · rename_i h
      have hl : k < (mpart s k).length := h
      rw [List.getElem?_eq_getElem hl]
      simp [mpart]
    · rename_i h
      rw [List.getElem?_eq_none (by omega)]
  · rfl
theorem mpart_next (s : ByteArray) (k : Nat) (hk : k < 16) : (mpart s k).set k (word s k) = mpart s (k + 1) := by
  have h16 : 16 - k = (16 - (k + 1)) + 1 := by omega
  unfold mpart
  rw [h16, List.replicate_succ, List.set_append_right _ _ (by simp), List.range_succ]
  simp
theorem mpart_all (s : ByteArray) : mpart s 16 = wordsL s := by simp [mpart, wordsL]

/-- The state while it is begun: k words of h, k of the beginning. -/
def vpart (h : List Int) (k : Nat) : List Int := h.take k ++ List.replicate (8 - k) 0 ++ (begins.take k ++ List.replicate (8 - k) 0)
theorem vpart_length (h : List Int) (hh : h.length = 8) (k : Nat) (hk : k ≤ 8) : (vpart h k).length = 16 := by
  simp [vpart, begins, hh]; omega
def vset (h : List Int) (k : Nat) : Nat → List Int
  | 0 => vpart h k
  | 1 => (vpart h k).set k (h.getD k 0)
  | _ => ((vpart h k).set k (h.getD k 0)).set (k + 8) (begins.getD k 0)
theorem vset_length (h : List Int) (hh : h.length = 8) (k m : Nat) (hk : k ≤ 8) : (vset h k m).length = 16 := by
  unfold vset; split <;> simp [vpart_length h hh k hk]
theorem part_set (l : List Int) (k n : Nat) (hl : l.length = n) (hk : k < n) : (l.take k ++ List.replicate (n - k) 0).set k (l.getD k 0) = l.take (k + 1) ++ List.replicate (n - (k + 1)) 0 := by
  have h1 : n - k = (n - (k + 1)) + 1 := by omega
  have hkl : k < l.length := by omega
  have h2 : l.take (k + 1) = l.take k ++ [l[k]] := by rw [List.take_succ_eq_append_getElem hkl]
  rw [h1, List.replicate_succ, List.set_append_right _ _ (by simp; omega)]
  simp [List.getD_eq_getElem?_getD, List.getElem?_eq_getElem hkl, Nat.min_eq_left (Nat.le_of_lt hkl)]
  rw [h2, List.append_assoc]
  rfl
theorem vset_next (h : List Int) (hh : h.length = 8) (k : Nat) (hk : k < 8) : vset h k 2 = vpart h (k + 1) := by
  show ((vpart h k).set k (h.getD k 0)).set (k + 8) (begins.getD k 0) = _
  unfold vpart
  rw [List.set_append_left _ _ (by simp; omega), part_set h k 8 hh hk, List.set_append_right _ _ (by simp; omega)]
  have e : k + 8 - (h.take (k + 1) ++ List.replicate (8 - (k + 1)) 0).length = k := by simp [hh]; omega
  rw [e, part_set begins k 8 rfl hk]
theorem vpart_zero (h : List Int) : vpart h 0 = List.replicate 16 0 := by simp [vpart]
theorem vpart_all (h : List Int) (hh : h.length = 8) : vpart h 8 = h ++ begins := by
  simp [vpart, begins, List.take_of_length_le (Nat.le_of_eq hh)]
/-- The state at the beginning: the count and the mark of the last block are in it. -/
def vstart (h : List Int) (t : Int) (last : Bool) : List Int :=
  let v := h ++ begins
  let w := (v.set 12 (xr (v.getD 12 0) (t % 4294967296))).set 13 (xr (v.getD 13 0) (t / 4294967296 % 4294967296))
  if last then w.set 14 (xr 4294967295 (v.getD 14 0)) else w
theorem vstart_length (h : List Int) (hh : h.length = 8) (t : Int) (last : Bool) : (vstart h t last).length = 16 := by
  unfold vstart; split <;> simp [hh, begins]
/-- The words behind a block. -/
def blockL (h : List Int) (s : ByteArray) (t : Int) (last : Bool) : List Int :=
  let v := roundsL (wordsL s) 10 (vstart h t last)
  (List.range 8).map fun i => xr (h.getD i 0) (xr (v.getD i 0) (v.getD (i + 8) 0))
/-- While they are written: k of them. -/
def hpart (h v : List Int) (k : Nat) : List Int := (List.range 8).map fun i => if i < k then xr (h.getD i 0) (xr (v.getD i 0) (v.getD (i + 8) 0)) else h.getD i 0
theorem list8 (l : List Int) (h : l.length = 8) : ∃ a b c d e f g i : Int, l = [a, b, c, d, e, f, g, i] := by
  match l, h with
  | [a, b, c, d, e, f, g, i], _ => exact ⟨a, b, c, d, e, f, g, i, rfl⟩
theorem hpart_length (h v : List Int) (k : Nat) : (hpart h v k).length = 8 := by simp [hpart]
theorem hpart_get (h v : List Int) (k i : Nat) (hi : i < 8) : (hpart h v k).getD i 0 = if i < k then xr (h.getD i 0) (xr (v.getD i 0) (v.getD (i + 8) 0)) else h.getD i 0 := by
  unfold hpart
  rw [List.getD_eq_getElem?_getD, List.getElem?_map, List.getElem?_range hi]
  rfl
theorem hpart_zero (h v : List Int) (hh : h.length = 8) : hpart h v 0 = h := by
  apply List.ext_getElem
  · simp [hpart, hh]
  · intro i h1 h2
    simp [hpart, List.getD_eq_getElem?_getD, List.getElem?_eq_getElem h2]
theorem hpart_next (h v : List Int) (k : Nat) (hk : k < 8) : (hpart h v k).set k (xr (h.getD k 0) (xr (v.getD k 0) (v.getD (k + 8) 0))) = hpart h v (k + 1) := by
  apply List.ext_getElem
  · simp [hpart]
  · intro i h1 h2
    rw [List.getElem_set]
    split
    · rename_i e
      subst e
      simp [hpart]
    · rename_i e
      have : (i < k) = (i < k + 1) := by
        have : i ≠ k := fun h => e h.symm
        simp; omega
      simp [hpart, this]
theorem hpart_all (h : List Int) (s : ByteArray) (t : Int) (last : Bool) : hpart h (roundsL (wordsL s) 10 (vstart h t last)) 8 = blockL h s t last := by
  unfold hpart blockL
  refine List.map_congr_left fun i hi => ?_
  rw [if_pos (List.mem_range.1 hi)]
theorem blockL_length (h : List Int) (s : ByteArray) (t : Int) (last : Bool) : (blockL h s t last).length = 8 := by simp [blockL]
end Go.Proofs.YtocfaglcaefnoaaDoor
