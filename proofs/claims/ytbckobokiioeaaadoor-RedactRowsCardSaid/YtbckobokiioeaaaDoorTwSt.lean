/- redact.twins: what its boxes and its two rows are in a round, and how each step of a round keeps them. -/
import Derived.RangeFuncNested
import Derived.RangeFuncBox
import Derived.Maps.OwnIn
import Derived.Test.YtbckobokiioeaaaDoorTwClean
import Derived.Test.YtbckobokiioeaaaDoorTwIter
set_option linter.unusedVariables false
set_option linter.unusedSimpArgs false
namespace Go.Proofs.YtbckobokiioeaaaDoor
open Go.RowKit

theorem row_lt {W : World} {base n : Nat} {v : Value} {xs : List Value} (h : W.ownsRow base 9 1 v n xs) {k : Nat} (hk : v.ownBlock = some k) : base ≤ k ∧ k < W.heap.size ∧ ∃ o : Obj, W.heap[k]? = some o ∧ o.isCells = true := by
  rcases h.2 with ⟨rfl, _⟩ | ⟨g, cap, cur, rfl, hb, hg, _⟩
  · simp [Value.ownBlock] at hk
  · obtain rfl : g = k := by simpa [Value.ownBlock] using hk
    exact ⟨hb, (Array.getElem?_eq_some_iff.1 hg).1, _, hg, rfl⟩
theorem row_slice {W : World} {base n : Nat} {v : Value} {xs : List Value} (h : W.ownsRow base 9 1 v n xs) : ∃ A c, v = .slice A n c := by
  rcases h.2 with ⟨rfl, rfl⟩ | ⟨g, cap, cur, rfl, _⟩
  · exact ⟨_, _, rfl⟩
  · exact ⟨_, _, rfl⟩
theorem row_at {W : World} {base n c : Nat} {A : Option Addr} {l : List ByteArray} (h : W.ownsRow base 9 1 (.slice A n c) n (l.map .string)) {k : Nat} (hk : k < n) {s : ByteArray} (hs : l[k]? = some s) : ∃ g, A = some ⟨g, 0, none⟩ ∧ W.cell? ⟨g, k, none⟩ = some (.string s) := by
  rcases h.2 with ⟨e, _⟩ | ⟨g, cap, cur, e, _⟩
  · injection e with _ e2 _
    omega
  · injection e with e1 _ _
    subst e1
    refine ⟨g, rfl, ?_⟩
    have := h.cells (g := g) (by simp [Value.ownBlock]) k (.string s) (by rw [List.getElem?_map, hs]; rfl)
    rw [Addr.add_lit, Nat.zero_add] at this
    exact this

/-- The boxes hold u7, u8; the rows v7, v8 (not one row) hold P, Q; what lay below b lies as in W0; what is no cells, from b + 6 on, too. -/
structure TwS (b : Nat) (seed : ByteArray) (W0 : World) (u7 u8 v7 v8 : Value) (P Q : List ByteArray) (W : World) : Prop where
  s0 : Boxed W b 9 (.string seed)
  r1 : ∃ v, Boxed W (b + 1) 9 v
  r2 : ∃ v, Boxed W (b + 2) 9 v
  r3 : ∃ v, Boxed W (b + 3) 4 v
  b7 : Boxed W (b + 4) 65 u7
  b8 : Boxed W (b + 5) 65 u8
  o7 : W.ownsRow (b + 6) 9 1 v7 P.length (P.map .string)
  o8 : W.ownsRow (b + 6) 9 1 v8 Q.length (Q.map .string)
  ap : ∀ k, v7.ownBlock = some k → v8.ownBlock ≠ some k
  below : Below b W0 W
  keeps : KeepsFrom (b + 6) W0 W
section
variable {b : Nat} {seed : ByteArray} {W0 W W' : World} {u7 u8 v7 v8 v : Value} {P Q P' : List ByteArray}
theorem TwS.size (h : TwS b seed W0 u7 u8 v7 v8 P Q W) : b + 6 ≤ W.heap.size := h.b8.lt
theorem TwS.alloc (h : TwS b seed W0 u7 u8 v7 v8 P Q W) (o : Obj) : TwS b seed W0 u7 u8 v7 v8 P Q (W.alloc o) :=
  ⟨h.s0.alloc o, h.r1.imp fun _ h => h.alloc o, h.r2.imp fun _ h => h.alloc o, h.r3.imp fun _ h => h.alloc o, h.b7.alloc o, h.b8.alloc o, h.o7.alloc o, h.o8.alloc o, h.ap, h.below.alloc (by have := h.size; omega) o, h.keeps.trans ((KeepsOthers.alloc _ _).from _)⟩
theorem TwS.drew (h : TwS b seed W0 u7 u8 v7 v8 P Q W) : TwS b seed W0 u7 u8 v7 v8 P Q W.drew :=
  ⟨h.s0, h.r1, h.r2, h.r3, h.b7, h.b8, h.o7, h.o8, h.ap, h.below.drew, h.keeps.trans ((KeepsOthers.drew _).from _)⟩
theorem TwS.bel (h : TwS b seed W0 u7 u8 v7 v8 P Q W) (hb : Below W.heap.size W W') : TwS b seed W0 u7 u8 v7 v8 P Q W' := by
  have hg : W.grownBy W' none := ⟨hb.os, hb.tape, hb.output, hb.size, fun k hk _ => hb.block k hk⟩
  refine ⟨h.s0.kept hg (by simp), h.r1.imp fun _ h => h.kept hg (by simp), h.r2.imp fun _ h => h.kept hg (by simp), h.r3.imp fun _ h => h.kept hg (by simp), h.b7.kept hg (by simp), h.b8.kept hg (by simp), h.o7.kept hg ?_, h.o8.kept hg ?_, h.ap, h.below.trans (hb.mono (by have := h.size; omega)), h.keeps.trans ⟨hb.size, fun k o _ hk _ => (hb.block k (Array.getElem?_eq_some_iff.1 hk).1).trans hk⟩⟩
  · cases v7.ownBlock <;> simp
  · cases v8.ownBlock <;> simp
/-- had = append(had, ..). -/
theorem TwS.app7 (h : TwS b seed W0 u7 u8 v7 v8 P Q W) (ho : W'.ownsRow (b + 6) 9 1 v P'.length (P'.map .string)) (hg : W.grownBy W' v7.ownBlock) (hl : v.ownBlock = v7.ownBlock ∨ v.ownBlock = some W.heap.size) : TwS b seed W0 u7 u8 v v8 P' Q W' := by
  have ne : ∀ i, i < b + 6 → some i ≠ v7.ownBlock := fun i hi e => by have := (row_lt h.o7 e.symm).1; omega
  refine ⟨h.s0.kept hg (ne _ (by omega)), h.r1.imp fun _ h => h.kept hg (ne _ (by omega)), h.r2.imp fun _ h => h.kept hg (ne _ (by omega)), h.r3.imp fun _ h => h.kept hg (ne _ (by omega)), h.b7.kept hg (ne _ (by omega)), h.b8.kept hg (ne _ (by omega)), ho, h.o8.kept hg ?_, ?_, h.below.grown hg (by have := h.size; omega) fun k e => by have := (row_lt h.o7 e).1; omega, h.keeps.trans ((KeepsOthers.of_grownBy hg fun j o e hj => ?_).from _)⟩
  · cases e : v8.ownBlock with
    | none => exact .inl rfl
    | some k => exact .inr fun e2 => h.ap k e2.symm e
  · intro k hk
    rcases hl with hl | hl
    · exact h.ap k (hl ▸ hk)
    · rw [hl] at hk
      obtain rfl : W.heap.size = k := by simpa using hk
      exact fun e => absurd (row_lt h.o8 e).2.1 (Nat.lt_irrefl _)
  · obtain ⟨_, _, o', h1, h2⟩ := row_lt h.o7 e
    rw [hj] at h1
    cases h1
    exact h2
/-- tags = append(tags, ..). -/
theorem TwS.app8 (h : TwS b seed W0 u7 u8 v7 v8 P Q W) (ho : W'.ownsRow (b + 6) 9 1 v P'.length (P'.map .string)) (hg : W.grownBy W' v8.ownBlock) (hl : v.ownBlock = v8.ownBlock ∨ v.ownBlock = some W.heap.size) : TwS b seed W0 u7 u8 v7 v P P' W' := by
  have ne : ∀ i, i < b + 6 → some i ≠ v8.ownBlock := fun i hi e => by have := (row_lt h.o8 e.symm).1; omega
  refine ⟨h.s0.kept hg (ne _ (by omega)), h.r1.imp fun _ h => h.kept hg (ne _ (by omega)), h.r2.imp fun _ h => h.kept hg (ne _ (by omega)), h.r3.imp fun _ h => h.kept hg (ne _ (by omega)), h.b7.kept hg (ne _ (by omega)), h.b8.kept hg (ne _ (by omega)), h.o7.kept hg ?_, ho, ?_, h.below.grown hg (by have := h.size; omega) fun k e => by have := (row_lt h.o8 e).1; omega, h.keeps.trans ((KeepsOthers.of_grownBy hg fun j o e hj => ?_).from _)⟩
  · cases e : v7.ownBlock with
    | none => exact .inl rfl
    | some k => exact .inr fun e2 => h.ap k e e2.symm
  · intro k hk hk2
    rcases hl with hl | hl
    · exact h.ap k hk (hl ▸ hk2)
    · rw [hl] at hk2
      obtain rfl : W.heap.size = k := by simpa using hk2
      exact absurd (row_lt h.o7 hk).2.1 (Nat.lt_irrefl _)
  · obtain ⟨_, _, o', h1, h2⟩ := row_lt h.o8 e
    rw [hj] at h1
    cases h1
    exact h2
theorem TwS.set7 (h : TwS b seed W0 u7 u8 v7 v8 P Q W) (u : Value) : TwS b seed W0 u u8 v7 v8 P Q (W.setCell ⟨b + 4, 0, none⟩ u) := by
  have hg := grownBy_setCell' W (b + 4) u
  refine ⟨h.s0.kept hg (by simp), h.r1.imp fun _ h => h.kept hg (by simp), h.r2.imp fun _ h => h.kept hg (by simp), h.r3.imp fun _ h => h.kept hg (by simp), h.b7.set u, h.b8.kept hg (by simp), h.o7.kept hg (.inr fun e => ?_), h.o8.kept hg (.inr fun e => ?_), h.ap, h.below.setCell (p := ⟨b + 4, 0, none⟩) (Nat.le_add_right _ _) u, h.keeps.trans ((KeepsOthers.setCell _ _ _).from _)⟩
  · have := (row_lt h.o7 e).1; omega
  · have := (row_lt h.o8 e).1; omega
theorem TwS.set8 (h : TwS b seed W0 u7 u8 v7 v8 P Q W) (u : Value) : TwS b seed W0 u7 u v7 v8 P Q (W.setCell ⟨b + 5, 0, none⟩ u) := by
  have hg := grownBy_setCell' W (b + 5) u
  refine ⟨h.s0.kept hg (by simp), h.r1.imp fun _ h => h.kept hg (by simp), h.r2.imp fun _ h => h.kept hg (by simp), h.r3.imp fun _ h => h.kept hg (by simp), h.b7.kept hg (by simp), h.b8.set u, h.o7.kept hg (.inr fun e => ?_), h.o8.kept hg (.inr fun e => ?_), h.ap, h.below.setCell (p := ⟨b + 5, 0, none⟩) (Nat.le_add_right _ _) u, h.keeps.trans ((KeepsOthers.setCell _ _ _).from _)⟩
  · have := (row_lt h.o7 e).1; omega
  · have := (row_lt h.o8 e).1; omega
theorem TwS.other (h : TwS b seed W u7 u8 v7 v8 P Q W) {row : Option Nat} (hg : W.grownBy W' row) (hr : ∀ r, row = some r → b + 6 ≤ r ∧ ∃ o : Obj, W.heap[r]? = some o ∧ o.isCells = false) : TwS b seed W' u7 u8 v7 v8 P Q W' := by
  have ne : ∀ i, i < b + 6 → some i ≠ row := fun i hi e => by have := (hr i e.symm).1; omega
  have no : ∀ {u : Value} {R : List ByteArray}, W.ownsRow (b + 6) 9 1 u R.length (R.map .string) → u.ownBlock = none ∨ u.ownBlock ≠ row := fun {u R} ho => by
    cases e : u.ownBlock with
    | none => exact .inl rfl
    | some k =>
      refine .inr fun e2 => ?_
      obtain ⟨_, _, o, h1, h2⟩ := row_lt ho e
      obtain ⟨_, o', h3, h4⟩ := hr k e2.symm
      rw [h1] at h3
      cases h3
      rw [h2] at h4
      cases h4
  exact ⟨h.s0.kept hg (ne _ (by omega)), h.r1.imp fun _ h => h.kept hg (ne _ (by omega)), h.r2.imp fun _ h => h.kept hg (ne _ (by omega)), h.r3.imp fun _ h => h.kept hg (ne _ (by omega)), h.b7.kept hg (ne _ (by omega)), h.b8.kept hg (ne _ (by omega)), h.o7.kept hg (no h.o7), h.o8.kept hg (no h.o8), h.ap, Below.refl _ _, KeepsFrom.refl _ _⟩
end
/-- What holds at a round's head. -/
def TwJ (b : Nat) (seed : ByteArray) (w : World) (pre : List SmS) (W : World) : Prop :=
  ∃ v7 v8, TwS b seed W v7 v8 v7 v8 (pre.map (·.1)) ((pre.map (·.1)).map (keyedB seed)) W ∧ Below b w W ∧ Clean seed (pre.map (·.1))
/-- What holds where twins were found. -/
def TwX (b : Nat) (seed : ByteArray) (w : World) (c : Code) (q : List SmS) (W : World) : Prop :=
  c = .ret ∧ ∃ p x y, q.map (·.1) = p ++ [x] ∧ Clean seed p ∧ p.find? (fun z => decide (hitP seed z x)) = some y ∧ Boxed W (b + 1) 9 (.string y) ∧ Boxed W (b + 2) 9 (.string x) ∧ Boxed W (b + 3) 4 (.bool true) ∧ Below b w W
theorem twJ_own (b : Nat) (seed : ByteArray) (w : World) : OwnFrom (b + 6) (TwJ b seed w) := by
  rintro s X Y row ⟨v7, v8, h, hb, hc⟩ hg hr
  exact ⟨v7, v8, h.other hg hr, hb.grown hg (by have := h.size; omega) fun k e => by have := (hr k e).1; omega, hc⟩
theorem twX_own (b : Nat) (seed : ByteArray) (w : World) (c : Code) : OwnFrom (b + 6) (TwX b seed w c) := by
  rintro s X Y row ⟨rfl, p, x, y, h1, h2, h3, h4, h5, h6, h7⟩ hg hr
  have ne : ∀ i, i < b + 6 → some i ≠ row := fun i hi e => by have := (hr i e.symm).1; omega
  exact ⟨rfl, p, x, y, h1, h2, h3, h4.kept hg (ne _ (by omega)), h5.kept hg (ne _ (by omega)), h6.kept hg (ne _ (by omega)), h7.grown hg (by have := h4.lt; omega) fun k e => by have := (hr k e).1; omega⟩
end Go.Proofs.YtbckobokiioeaaaDoor
