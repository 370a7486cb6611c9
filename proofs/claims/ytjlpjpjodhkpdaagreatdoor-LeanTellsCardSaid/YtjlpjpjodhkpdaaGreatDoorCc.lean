/- Rows whose first cells are known: for walks with known values. -/
import Derived.Maps.AppendAt
import Derived.Deep.RegionHeld3
import Derived.Deep.AppendLies
import Derived.Deep.QuietTactic
import Derived.BigQuiet
import Derived.RangeFuncBox
import Derived.Outline
import Derived.Test.YtjlpjpjodhkpdaaGreatDoorBase
set_option linter.unusedVariables false
set_option linter.unusedSimpArgs false
namespace Go.Proofs.YtjlpjpjodhkpdaaGreatDoor
open Go.RowKit
def Pre (W : World) (g t : Nat) (cs : List Value) : Prop := ∃ rest : Array Value, W.heap[g]? = some (.cells (cs.toArray ++ rest) t (0, 0))
section
variable {W W' : World} {g t : Nat} {cs : List Value}
theorem Pre.lt (h : Pre W g t cs) : g < W.heap.size := by obtain ⟨r, h⟩ := h; exact (Array.getElem?_eq_some_iff.1 h).1
theorem Pre.cell (h : Pre W g t cs) {i : Nat} {v : Value} (hi : cs[i]? = some v) : W.cell? ⟨g, i, none⟩ = some v := by
 obtain ⟨r, h⟩ := h
 rw [cell_of_row W g i _ t _ h]
 have hl : i < cs.length := (List.getElem?_eq_some_iff.1 hi).1
 rw [Array.getElem?_append_left (by simpa using hl)]
 simpa using hi
theorem Pre.kept (h : Pre W g t cs) {row : Option Nat} (hg : W.grownBy W' row) (hne : some g ≠ row) : Pre W' g t cs := by
 have hl := h.lt
 obtain ⟨r, h⟩ := h
 exact ⟨r, (hg.block g hl hne).trans h⟩
theorem Pre.alloc (h : Pre W g t cs) (o : Obj) : Pre (W.alloc o) g t cs := h.kept (World.grownBy_alloc W o none) (by simp)
theorem Pre.drew (h : Pre W g t cs) : Pre W.drew g t cs := h
theorem Pre.drewN (h : Pre W g t cs) (n : Nat) : Pre (W.drewN n) g t cs := h
theorem Pre.below (h : Pre W g t cs) (hb : Below W.heap.size W W') : Pre W' g t cs := by
 have hl := h.lt
 obtain ⟨r, h⟩ := h
 exact ⟨r, (hb.block g hl).trans h⟩
theorem Pre.of_row (h : RowIs W g t cs) : Pre W g t cs := ⟨#[], by rw [Array.append_empty]; exact h⟩
theorem Pre.new (W : World) (t : Nat) (cs : List Value) : Pre (W.alloc (.cells cs.toArray t)) W.heap.size t cs := Pre.of_row (RowIs.new W t cs)
theorem Pre.of_own {b s n c : Nat} (h : W.ownsRow b t s (.slice (some ⟨g, 0, none⟩) n c) n cs) : Pre W g t cs := by
 rcases h.2 with ⟨e, _⟩ | ⟨g', cap, cur, e, hb, hg, hn, hm, hs, ht⟩
 · cases e
 · injection e with e1 _ _
   injection e1 with e1
   injection e1 with e1
   subst e1
   refine ⟨(cur.toList.drop (n * s)).toArray, ?_⟩
   rw [hg, ← ht, List.append_toArray, List.take_append_drop]
theorem Pre.news (h : Pre W g t cs) : ∀ j u, cs[j]? = some u → W.cell? ((⟨g, 0, none⟩ : Addr).add j) = some u := fun j u hj => by
 rw [Addr.add_lit, Nat.zero_add]
 exact h.cell hj
theorem Pre.ne_row (h : Pre W g t cs) {b e s n : Nat} {v : Value} {xs : List Value} (ho : W.ownsRow b e s v n xs) (hte : t ≠ e) : some g ≠ v.ownBlock := by
 obtain ⟨r, h⟩ := h
 rcases ho.2 with ⟨rfl, _⟩ | ⟨g', cap, cur, rfl, _, hgb, _⟩
 · simp [Value.ownBlock]
 · intro e'
   obtain rfl : g = g' := by simpa [Value.ownBlock] using e'
   rw [h] at hgb
   simp at hgb
   exact hte hgb.2
theorem row_cap {b e s n c : Nat} {g : Nat} {xs : List Value} (h : W.ownsRow b e s (.slice (some ⟨g, 0, none⟩) n c) n xs) : n ≤ c ∧ b ≤ g ∧ g < W.heap.size := by
 rcases h.2 with ⟨e, _⟩ | ⟨g', cap, cur, e, hb, hg, hn, hm, hs, ht⟩
 · cases e
 · injection e with e1 _ e3
   injection e1 with e1
   injection e1 with e1
   subst e1
   subst e3
   exact ⟨hn, hb, (Array.getElem?_eq_some_iff.1 hg).1⟩
theorem row_low {b e s n : Nat} {v : Value} {xs : List Value} (h : W.ownsRow b e s v n xs) : ∀ k, v.ownBlock = some k → b ≤ k := by
 intro k hk
 rcases h.2 with ⟨rfl, _⟩ | ⟨g, cap, cur, rfl, hb, _⟩
 · simp [Value.ownBlock] at hk
 · obtain rfl : g = k := by simpa [Value.ownBlock] using hk
   exact hb
end
theorem own_one (W : World) (b t : Nat) (v : Value) (hb : b ≤ W.heap.size) : (W.alloc (.cells #[v] t)).ownsRow b t 1 (.slice (some ⟨W.heap.size, 0, none⟩) 1 1) 1 [v] :=
 ⟨by simp, .inr ⟨W.heap.size, 1, #[v], rfl, hb, heap_alloc_new W _, Nat.le_refl _, by unfold maxLen; omega, by simp, by simp⟩⟩
theorem own_drewN {W : World} {b e s n : Nat} {v : Value} {xs : List Value} (h : W.ownsRow b e s v n xs) (m : Nat) : (W.drewN m).ownsRow b e s v n xs := h
theorem cell_new_at (W : World) (x : Value) (t k : Nat) (hk : W.heap.size = k) : ∀ j u, [x][j]? = some u → (W.alloc (.cells #[x] t)).cell? ((⟨k, 0, none⟩ : Addr).add j) = some u := by
 subst hk
 exact cell_one_new W x t
end Go.Proofs.YtjlpjpjodhkpdaaGreatDoor
