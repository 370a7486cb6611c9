/- lean.Bad, lean.Edge, the example, in the form that the print takes; more proofs of reads change nothing. -/
import Derived.Test.YtjlpjpjodhkpdaaGreatDoorBd
import Derived.Test.YtjlpjpjodhkpdaaGreatDoorShW
set_option linter.unusedVariables false
set_option linter.unusedSimpArgs false
namespace Go.Proofs.YtjlpjpjodhkpdaaGreatDoor
open Go.RowKit Go.Proofs.YtjlpjpjodhkpdaaGreatDoor.Q Go.Proofs.YtjlpjpjodhkpdaaGreatDoorW.PrintWords

def cartouchelaw15_shown.f : Option Bool := some true
theorem cartouchelaw15_shown.calls (r : Bool) (w : World) (hT : Tabs w) (h : cartouchelaw15_shown.f = some r) : Calls Tryz.prog 9 #[] w fun e w' => e = .returned (.bool r) ∧ Below w.heap.size w w' := by
  obtain rfl : true = r := Option.some.inj h
  exact shown_any w hT
def lean_Bad.f (l : List Prf) (a b c : Int) : Option Bool := if l.length ≤ 9223372036854775806 then some (lnBad l a b c) else none
theorem lean_Bad.calls (A0 : Option Addr) (c0 : Nat) (l0 : List Prf) (a1_0 a1_1 a1_2 : Int) (r : Bool) (w : World) (hr0 : Kd.C k55 w A0 l0.length l0) (hc0 : l0.length ≤ c0) (h : lean_Bad.f l0 a1_0 a1_1 a1_2 = some r) :
    Calls Tryz.prog 14 #[.slice A0 l0.length c0, .agg #[.int .i64 a1_0, .int .i64 a1_1, .int .i64 a1_2]] w fun e w' => e = .returned (.bool r) ∧ Below w.heap.size w w' := by
  unfold lean_Bad.f at h
  split at h
  · rename_i hl
    obtain rfl := Option.some.inj h
    exact lnBad_any A0 c0 l0 a1_0 a1_1 a1_2 w hr0 hl
  · cases h
def lean_Edge.f (l : List Prf) (a b c d e : Int) : Option Bool := if l.length ≤ 9223372036854775806 then some (lnEdge l ⟨a, b, c, d, e⟩) else none
theorem lean_Edge.calls (A0 : Option Addr) (c0 : Nat) (l0 : List Prf) (a1_0 a1_1 a1_2 a1_3 a1_4 : Int) (r : Bool) (w : World) (hr0 : Kd.C k55 w A0 l0.length l0) (hc0 : l0.length ≤ c0) (h : lean_Edge.f l0 a1_0 a1_1 a1_2 a1_3 a1_4 = some r) :
    Calls Tryz.prog 16 #[.slice A0 l0.length c0, .agg #[.int .i64 a1_0, .int .i64 a1_1, .int .i64 a1_2, .int .i64 a1_3, .int .i64 a1_4]] w fun e w' => e = .returned (.bool r) ∧ Below w.heap.size w w' := by
  unfold lean_Edge.f at h
  split at h
  · rename_i hl
    obtain rfl := Option.some.inj h
    exact lnEdge_any A0 c0 l0 a1_0 a1_1 a1_2 a1_3 a1_4 w hr0 hl
  · cases h
/-! ### More proofs of reads -/
theorem find_more {q : Prf → Bool} {l R : List Prf} (h : ∀ p ∈ R, q p = false) : (l ++ R).find? q = l.find? q := by
  rw [List.find?_append]
  have : R.find? q = none := by
    rw [List.find?_eq_none]
    intro p hp
    rw [h p hp]; decide
  rw [this]
  cases l.find? q <;> rfl
theorem find_first {q : Prf → Bool} {l R : List Prf} (h : isP q l = true) : (l ++ R).find? q = l.find? q := by
  unfold isP at h
  rw [List.find?_append]
  cases hf : l.find? q with
  | none => rw [hf] at h; cases h
  | some x => rfl
section
variable {l R : List Prf} (hR : ∀ p ∈ R, p.f1.f0 = 2)
include hR
theorem end_more (t : Int) : (l ++ R).find? (isEnd t) = l.find? (isEnd t) := find_more fun p hp => by
  have := hR p hp
  unfold isEnd
  rw [this]
  simp
theorem wr_more (key val : ByteArray) : (l ++ R).find? (isWr key val) = l.find? (isWr key val) := find_more fun p hp => by
  have := hR p hp
  unfold isWr
  rw [this]
  simp
theorem commit_more (t : Int) : lnCommit (l ++ R) t = lnCommit l t := by
  unfold lnCommit isP foundP
  rw [end_more hR]
theorem bad_more (a b c : Int) (h : lnBad l a b c = true) : lnBad (l ++ R) a b c = true := by
  have hx : isP (isAt b) l = true := by
    unfold lnBad badIs at h
    simp only [Bool.and_eq_true] at h
    exact h.1
  have hy : isP (isAt c) l = true := by
    unfold lnBad badIs at h
    simp only [Bool.and_eq_true] at h
    exact h.2.1
  have ex := find_first (R := R) hx
  have ey := find_first (R := R) hy
  have e : lnBad (l ++ R) a b c = lnBad l a b c := by
    unfold lnBad
    simp only [commit_more hR]
    unfold isP foundP
    simp only [ex, ey, wr_more hR, end_more hR]
  rw [e]; exact h
theorem edge_more (x : S32) (h : lnEdge l x = true) : lnEdge (l ++ R) x = true := by
  have hx : isP (isAt x.f3) l = true := by
    unfold lnEdge edgeIs at h
    simp only [Bool.and_eq_true] at h
    exact h.1
  have hy : isP (isAt x.f4) l = true := by
    unfold lnEdge edgeIs at h
    simp only [Bool.and_eq_true] at h
    exact h.2.1
  have ex := find_first (R := R) hx
  have ey := find_first (R := R) hy
  have e : lnEdge (l ++ R) x = lnEdge l x := by
    unfold lnEdge
    simp only [commit_more hR]
    unfold isP foundP
    simp only [ex, ey, wr_more hR]
  rw [e]; exact h
end
end Go.Proofs.YtjlpjpjodhkpdaaGreatDoor
