/- Whole arrays loaded and stored, and a cell's block laid, in a region with a late value. -/
import Derived.Test.YtocfaglcaefnoaaDoorRow
import Derived.Test.YtocfaglcaefnoaaDoorLate
set_option linter.unusedVariables false
set_option linter.unusedSimpArgs false
namespace Go.Proofs.YtocfaglcaefnoaaDoor
open Go.RowKit
namespace LateRow
open Go.Fam Go.Late
section
variable {P : Program} {ops : Array Oper} {C : Nat → Option Value → World → Prop} {E : List Nat} {L : Nat} {Q : Nat → Option Value → Act → Prop} {k m : Nat} {ov : Option Value} {o : Oper} {rest : List Oper} {a : Act}
theorem load_ (ty : TypeId) (x : Operand) (B : Nat) (T : TypeId) (cs : List Value) (d : TypeDesc) (n : Nat) (hkL : k ≠ L) (ho : o.op = .load ty x) (hx : a.eval x = .pointer (some ⟨B, 0, none⟩)) (hw : Region.wanted o (yielded ops a.tmps) = true) (hp : posOf E 0 k = none)
    (hu : P.underlying ty = some d) (hd : (match d with | .struct _ | .array _ _ => true | _ => false) = true) (hi : (P.info? ty).map (·.size) = some n) (hn : cs.length = n)
    (hR : ∀ m' ov', Agrees ov ov' → inR ops E k m' = true → inL ops L k ov' = true → ∀ w, C m' ov' w → RowIs w B T cs)
    (h : Late.wpNat P ops C E L Q (k + 1) m ov rest (a.put o.dst (.agg cs.toArray))) : Late.wpNat P ops C E L Q k m ov (o :: rest) a :=
  Late.read_ _ hkL hw hp (fun m' ov' ha hm' ho' w hw' => op_load_row ty x ho hx (hR m' ov' ha hm' ho' w hw') d hu hd n hi hn) h
theorem store_ (ty : TypeId) (x y : Operand) (B : Nat) (T : TypeId) (cs : List Value) (n : Nat) (hkL : k ≠ L) (ho : o.op = .store ty x y) (hx : a.eval x = .pointer (some ⟨B, 0, none⟩)) (hy : a.eval y = .agg cs.toArray) (hw : Region.wanted o (yielded ops a.tmps) = true) (hp : posOf E 0 k = some m)
    (hi : (P.info? ty).map (·.size) = some n) (hn : cs.length = n) (h1 : ∀ v ∈ cs, v.oneCell' = true)
    (hR : ∀ ov', Agrees ov ov' → inL ops L k ov' = true → ∀ w, C m ov' w → ∃ old, RowIs w B T old ∧ old.length = n ∧ C (m + 1) ov' (w.setRow B cs.toArray))
    (h : Late.wpNat P ops C E L Q (k + 1) (m + 1) ov rest (a.put o.dst undef)) : Late.wpNat P ops C E L Q k m ov (o :: rest) a :=
  Late.store_ hkL hw hp (fun ov' ha ho' w hw' => let ⟨old, h2, h3, h4⟩ := hR ov' ha ho' w hw'; ⟨_, op_store_row ty x y ho hx hy h2 n hi hn h3 h1, h4⟩) h
end
end LateRow
end Go.Proofs.YtocfaglcaefnoaaDoor
