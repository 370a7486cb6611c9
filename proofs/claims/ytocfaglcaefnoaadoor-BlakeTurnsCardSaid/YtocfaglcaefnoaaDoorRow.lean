/- A BLOCK THAT IS KNOWN WHOLE ('RowIs'): read, written, kept. -/
import Derived.Test.YtocfaglcaefnoaaDoorFam
import Derived.Test.YtocfaglcaefnoaaDoorProg
import Derived.Laws.Rows
import Derived.OwnWalk
set_option linter.unusedVariables false
set_option linter.unusedSimpArgs false
namespace Go.Proofs.YtocfaglcaefnoaaDoor
open Go.RowKit

/-- A walk stops here. -/
structure Pause' (p : Prop) : Prop where
  out : p
/-- Block B holds just these cells, none of them frozen. -/
def RowIs (w : World) (B : Nat) (T : TypeId) (cs : List Value) : Prop := w.heap[B]? = some (.cells cs.toArray T (0, 0))
section
variable {w w' : World} {B : Nat} {T : TypeId} {cs : List Value}
theorem RowIs.lt (h : RowIs w B T cs) : B < w.heap.size := (Array.getElem?_eq_some_iff.1 h).1
theorem RowIs.cell (h : RowIs w B T cs) {i : Nat} {v : Value} (hi : cs[i]? = some v) : w.cell? ⟨B, i, none⟩ = some v := by
  rw [cell_of_row w B i _ T _ h]; simpa using hi
theorem RowIs.frozen (h : RowIs w B T cs) (i : Nat) : w.frozen? ⟨B, i, none⟩ = false := frozen_of_row w B i _ T h
theorem RowIs.set (h : RowIs w B T cs) (i : Nat) (v : Value) : RowIs (w.setCell ⟨B, i, none⟩ v) B T (cs.set i v) := by
  unfold RowIs
  rw [heap_setCell_same w B i _ T v h]
  simp
theorem RowIs.other (h : RowIs w B T cs) {a : Addr} (ha : B ≠ a.block) (v : Value) : RowIs (w.setCell a v) B T cs := by
  unfold RowIs
  rw [heap_setCell_other w a B v ha]
  exact h
theorem RowIs.alloc (h : RowIs w B T cs) (o : Obj) : RowIs (w.alloc o) B T cs := by
  unfold RowIs
  rw [Below.heap_alloc w o B h.lt]
  exact h
theorem RowIs.new (w : World) (T : TypeId) (cs : List Value) : RowIs (w.alloc (.cells cs.toArray T (0, 0))) w.heap.size T cs := by
  unfold RowIs World.alloc
  simp
theorem RowIs.drew (h : RowIs w B T cs) : RowIs w.drew B T cs := h
theorem RowIs.drewN (h : RowIs w B T cs) (n : Nat) : RowIs (w.drewN n) B T cs := h
theorem RowIs.below (h : RowIs w B T cs) (hb : Below w.heap.size w w') : RowIs w' B T cs := (hb.block B h.lt).trans h
theorem RowIs.below' {D : Nat} {w₀ : World} (h : RowIs w₀ B T cs) (hb : Below D w₀ w') (hD : B < D) : RowIs w' B T cs := (hb.block B hD).trans h
theorem RowIs.grown (h : RowIs w B T cs) {row : Option Nat} (hg : w.grownBy w' row) (hne : some B ≠ row) : RowIs w' B T cs := (hg.block B h.lt hne).trans h
end
theorem grown_trans {a b c : World} {row : Option Nat} (h : a.grownBy b row) (k : b.grownBy c row) : a.grownBy c row :=
  ⟨k.os.trans h.os, k.tape.trans h.tape, k.output.trans h.output, Nat.le_trans h.size k.size, fun i hi hne => (k.block i (Nat.lt_of_lt_of_le hi h.size) hne).trans (h.block i hi hne)⟩
theorem grown_setCell {a b : World} {B : Nat} (h : a.grownBy b (some B)) (i : Nat) (v : Value) : a.grownBy (b.setCell ⟨B, i, none⟩ v) (some B) :=
  ⟨h.os, h.tape, h.output, by simpa [World.setCell] using h.size, fun k hk hne => by rw [heap_setCell_other b _ k v (fun e => hne (by rw [e]))]; exact h.block k hk hne⟩
theorem grown_alloc {a b : World} {row : Option Nat} (h : a.grownBy b row) (o : Obj) : a.grownBy (b.alloc o) row :=
  grown_trans h (World.grownBy_alloc b o row)
theorem grown_drew {a b : World} {row : Option Nat} (h : a.grownBy b row) : a.grownBy b.drew row := ⟨h.os, h.tape, h.output, h.size, h.block⟩
theorem grown_drewN {a b : World} {row : Option Nat} (h : a.grownBy b row) (n : Nat) : a.grownBy (b.drewN n) row := ⟨h.os, h.tape, h.output, h.size, h.block⟩
theorem grown_below {a b c : World} {row : Option Nat} (h : a.grownBy b row) (k : Below b.heap.size b c) : a.grownBy c row :=
  grown_trans h ⟨k.os, k.tape, k.output, k.size, fun i hi _ => k.block i hi⟩
theorem below_of_grown {a b : World} {row : Option Nat} (h : a.grownBy b row) (hr : ∀ k, row = some k → a.heap.size ≤ k) : Below a.heap.size a b :=
  ⟨h.os, h.tape, h.output, h.size, fun k hk => h.block k hk (fun e => by have := hr k e.symm; omega)⟩
theorem grown_of_none {a b : World} (h : a.grownBy b none) (row : Option Nat) : a.grownBy b row := ⟨h.os, h.tape, h.output, h.size, fun k hk _ => h.block k hk (by simp)⟩

/-- Words as cells. -/
def u32s (l : List Int) : List Value := l.map (Value.int .u32)
theorem u32s_length (l : List Int) : (u32s l).length = l.length := by simp [u32s]
theorem u32s_get (l : List Int) (i : Nat) (h : i < l.length) : (u32s l)[i]? = some (.int .u32 (l.getD i 0)) := by
  simp [u32s, h, List.getD_eq_getElem?_getD]
theorem u32s_set (l : List Int) (i : Nat) (x : Int) : (u32s l).set i (.int .u32 x) = u32s (l.set i x) := by
  simp [u32s, List.map_set]
def u8s (l : List Int) : List Value := l.map (Value.int .u8)
theorem u8s_length (l : List Int) : (u8s l).length = l.length := by simp [u8s]
theorem u8s_get (l : List Int) (i : Nat) (h : i < l.length) : (u8s l)[i]? = some (.int .u8 (l.getD i 0)) := by
  simp [u8s, h, List.getD_eq_getElem?_getD]

section
variable {w w' : World} {B : Nat} {T : TypeId} {cs old : List Value}
theorem heap_setRow_other (w : World) (g k : Nat) (cs : Array Value) (h : k ≠ g) : (w.setRow g cs).heap[k]? = w.heap[k]? := by
  simp only [World.setRow, Array.getElem?_modify]
  rw [if_neg (fun e => h e.symm)]
theorem RowIs.put (h : RowIs w B T old) (cs : List Value) : RowIs (w.setRow B cs.toArray) B T cs := by
  unfold RowIs at *
  simp only [World.setRow, Array.getElem?_modify, if_true, h, Option.map_some]
theorem RowIs.putOther (h : RowIs w B T cs) {g : Nat} (hg : B ≠ g) (xs : Array Value) : RowIs (w.setRow g xs) B T cs := by
  unfold RowIs
  rw [heap_setRow_other w g B xs hg]
  exact h
theorem below_setRow {D : Nat} {a w : World} (h : Below D a w) {g : Nat} (hg : D ≤ g) (cs : Array Value) : Below D a (w.setRow g cs) :=
  h.trans ⟨rfl, rfl, rfl, by simp, fun k hk => heap_setRow_other _ _ _ _ (by omega)⟩
end
section
variable {P : Program} {o : Oper} {a : Act} {w : World} {B : Nat} {T : TypeId} {cs old : List Value}
/-- A whole array is loaded. -/
theorem op_load_row (ty : TypeId) (x : Operand) (ho : o.op = .load ty x) (hx : a.eval x = .pointer (some ⟨B, 0, none⟩)) (hR : RowIs w B T cs) (d : TypeDesc)
    (hu : P.underlying ty = some d) (hd : (match d with | .struct _ | .array _ _ => true | _ => false) = true) (n : Nat) (hi : (P.info? ty).map (·.size) = some n) (hn : cs.length = n) :
    (execOp a.eval o).run P w = .ok (.value (.agg cs.toArray)) w := by
  unfold execOp
  simp only [ho, hx, Instr.loadAt, Instr.sureAddr, Sem.run_bind, Sem.run_pure, Result.andThen_ok, run_loadVar_row w B T ty cs.toArray (0, 0) d hR hu hd (by rw [hi, ← hn]; simp)]
/-- A whole array is stored. -/
theorem op_store_row (ty : TypeId) (x y : Operand) (ho : o.op = .store ty x y) (hx : a.eval x = .pointer (some ⟨B, 0, none⟩)) (hy : a.eval y = .agg cs.toArray) (hR : RowIs w B T old)
    (n : Nat) (hi : (P.info? ty).map (·.size) = some n) (hn : cs.length = n) (hold : old.length = n) (h1 : ∀ v ∈ cs, v.oneCell' = true) :
    (execOp a.eval o).run P w = .ok .skip (w.setRow B cs.toArray) := by
  unfold execOp
  simp only [ho, hx, hy, Instr.storeAt, Instr.sureAddr, Sem.run_bind, Sem.run_pure, Result.andThen_ok, run_storeVar_row w B T ty old.toArray cs.toArray hR (by rw [hi, ← hn]; simp) (by simp; omega) (by rw [Array.all_eq_true_iff_forall_mem]; intro v hv; exact h1 v (by simpa using hv))]
end
namespace FamRow
open Go.Fam
section
variable {P : Program} {ops : Array Oper} {C : Nat → World → Prop} {E : List Nat} {Q : Nat → Act → Prop} {k m : Nat} {o : Oper} {rest : List Oper} {a : Act}
/-- A whole array is loaded, in each world of the family in which that may come up. -/
theorem load_ (ty : TypeId) (x : Operand) (B : Nat) (T : TypeId) (cs : List Value) (d : TypeDesc) (n : Nat) (ho : o.op = .load ty x) (hx : a.eval x = .pointer (some ⟨B, 0, none⟩)) (hw : Region.wanted o (yielded ops a.tmps) = true) (hp : posOf E 0 k = none)
    (hu : P.underlying ty = some d) (hd : (match d with | .struct _ | .array _ _ => true | _ => false) = true) (hi : (P.info? ty).map (·.size) = some n) (hn : cs.length = n)
    (hR : ∀ m', inR ops E k m' = true → ∀ w, C m' w → RowIs w B T cs)
    (h : wpNat P ops C E Q (k + 1) m rest (a.put o.dst (.agg cs.toArray))) : wpNat P ops C E Q k m (o :: rest) a :=
  read_ _ hw hp (fun m' hm' w hw' => op_load_row ty x ho hx (hR m' hm' w hw') d hu hd n hi hn) h
/-- A whole array is stored. -/
theorem store_ (ty : TypeId) (x y : Operand) (B : Nat) (T : TypeId) (cs : List Value) (n : Nat) (ho : o.op = .store ty x y) (hx : a.eval x = .pointer (some ⟨B, 0, none⟩)) (hy : a.eval y = .agg cs.toArray) (hw : Region.wanted o (yielded ops a.tmps) = true) (hp : posOf E 0 k = some m)
    (hi : (P.info? ty).map (·.size) = some n) (hn : cs.length = n) (h1 : ∀ v ∈ cs, v.oneCell' = true)
    (hR : ∀ w, C m w → ∃ old, RowIs w B T old ∧ old.length = n ∧ C (m + 1) (w.setRow B cs.toArray))
    (h : wpNat P ops C E Q (k + 1) (m + 1) rest (a.put o.dst undef)) : wpNat P ops C E Q k m (o :: rest) a :=
  Fam.store_ hw hp (fun w hw' => let ⟨old, h2, h3, h4⟩ := hR w hw'; ⟨_, op_store_row ty x y ho hx hy h2 n hi hn h3 h1, h4⟩) h
end
end FamRow
theorem u32s_one (l : List Int) : ∀ v ∈ u32s l, v.oneCell' = true := by
  intro v hv
  obtain ⟨x, _, rfl⟩ := List.mem_map.1 hv
  rfl
theorem size8 : (Tryd.prog.info? 24).map (·.size) = some 8 := by kernel_rfl
theorem size16 : (Tryd.prog.info? 50).map (·.size) = some 16 := by kernel_rfl
end Go.Proofs.YtocfaglcaefnoaaDoor
