/- BLAKE2s IN PLAIN LEAN: what a mixing, a round, a block make of the words. No program in sight. -/
import Derived.Test.YtocfaglcaefnoaaDoorArith
namespace Go.Proofs.YtocfaglcaefnoaaDoor

/-- One mixing of the words v at p, q, r, s with x and y. -/
def mixL (p q r s : Nat) (x y : Int) (v : List Int) : List Int :=
  let a := v.getD p 0; let b := v.getD q 0; let c := v.getD r 0; let d := v.getD s 0
  let a1 := hA a b x; let b1 := hB r16 r12 a b c d x; let c1 := hC r16 a b c d x; let d1 := hD r16 a b d x
  (((v.set p (hA a1 b1 y)).set q (hB r8 r7 a1 b1 c1 d1 y)).set r (hC r8 a1 b1 c1 d1 y)).set s (hD r8 a1 b1 d1 y)
theorem mixL_length (p q r s : Nat) (x y : Int) (v : List Int) : (mixL p q r s x y v).length = v.length := by simp [mixL]

/-- The eight mixings' places, the ten rounds' orders. -/
def mixings : List (List Nat) := [[0, 4, 8, 12], [1, 5, 9, 13], [2, 6, 10, 14], [3, 7, 11, 15], [0, 5, 10, 15], [1, 6, 11, 12], [2, 7, 8, 13], [3, 4, 9, 14]]
def orders : List (List Nat) := [[0, 1, 2, 3, 4, 5, 6, 7, 8, 9, 10, 11, 12, 13, 14, 15], [14, 10, 4, 8, 9, 15, 13, 6, 1, 12, 0, 2, 11, 7, 5, 3], [11, 8, 12, 0, 5, 2, 15, 13, 10, 14, 3, 6, 7, 1, 9, 4], [7, 9, 3, 1, 13, 12, 11, 14, 2, 6, 5, 10, 4, 0, 15, 8], [9, 0, 5, 7, 2, 4, 10, 15, 14, 1, 11, 12, 6, 8, 3, 13], [2, 12, 6, 10, 0, 11, 8, 3, 4, 13, 7, 5, 15, 14, 1, 9], [12, 5, 1, 15, 14, 13, 4, 10, 0, 7, 6, 3, 9, 2, 8, 11], [13, 11, 7, 14, 12, 1, 3, 9, 5, 0, 15, 4, 8, 6, 2, 10], [6, 15, 14, 9, 11, 3, 0, 8, 12, 2, 13, 7, 1, 4, 10, 5], [10, 2, 8, 4, 7, 6, 1, 5, 15, 11, 9, 14, 3, 12, 13, 0]]
def mx (i j : Nat) : Nat := (mixings.getD i []).getD j 0
def od (r j : Nat) : Nat := (orders.getD r []).getD j 0
/-- Mixing number i of round r. -/
def mixAt (m : List Int) (r i : Nat) (v : List Int) : List Int := mixL (mx i 0) (mx i 1) (mx i 2) (mx i 3) (m.getD (od r (2 * i)) 0) (m.getD (od r (2 * i + 1)) 0) v
/-- The first k mixings of round r. -/
def roundL (m : List Int) (r : Nat) : Nat → List Int → List Int
  | 0, v => v
  | k + 1, v => mixAt m r k (roundL m r k v)
/-- The first r rounds. -/
def roundsL (m : List Int) : Nat → List Int → List Int
  | 0, v => v
  | r + 1, v => roundL m r 8 (roundsL m r v)
theorem roundL_length (m : List Int) (r k : Nat) (v : List Int) : (roundL m r k v).length = v.length := by
  induction k with
  | zero => rfl
  | succ k ih => simp [roundL, mixAt, mixL_length, ih]
theorem roundsL_length (m : List Int) (r : Nat) (v : List Int) : (roundsL m r v).length = v.length := by
  induction r with
  | zero => rfl
  | succ r ih => simp [roundsL, roundL_length, ih]
def begins : List Int := [1779033703, 3144134277, 1013904242, 2773480762, 1359893119, 2600822924, 528734635, 1541459225]
end Go.Proofs.YtocfaglcaefnoaaDoor
