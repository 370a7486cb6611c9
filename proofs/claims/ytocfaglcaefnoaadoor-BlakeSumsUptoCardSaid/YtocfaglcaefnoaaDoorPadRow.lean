/- '[]byte(s)' and noughts appended: the row that the conversion laid, and the rows behind it. -/
import Derived.Test.YtocfaglcaefnoaaDoorRow
import Derived.Lib.Builder
import Derived.Lib.UnsafeStr
import Derived.Laws.IdiomStrings
set_option linter.unusedVariables false
set_option linter.unusedSimpArgs false
namespace Go.Proofs.YtocfaglcaefnoaaDoor
open Go.RowKit

theorem storeOne (P : Program) (g n : Nat) (w : World) (z c : Value) (hc : w.cell? ⟨g, n, none⟩ = some c) (hf : w.frozen? ⟨g, n, none⟩ = false) (h1 : z.oneCell' = true) :
    (storeCells ⟨g, n, none⟩ [z] 0).run P w = .ok () (w.setCell ⟨g, n, none⟩ z) := by
  have ha : (⟨g, n, none⟩ : Addr).add 0 = ⟨g, n, none⟩ := by simp [Addr.add]
  simp only [storeCells, Sem.run_bind]
  rw [ha, run_store P w _ z _ h1, hc]
  simp [hf]

theorem append_in (P : Program) (w : World) (t ty e : TypeId) (i : TypeInfo) (ht : P.underlying t = some (.slice e)) (hi : P.info? e = some i) (hs : i.size = 1)
    (g n cap : Nat) (c : Value) (hc : w.cell? ⟨g, n, none⟩ = some c) (hf : w.frozen? ⟨g, n, none⟩ = false) (hroom : n + 1 ≤ cap)
    (a : Addr) (c2 : Nat) (z : Value) (hz : w.cell? a = some z) (ha0 : a.add 0 = a) (h1 : z.oneCell' = true) :
    (Builtin.append_ #[t, t] ty #[.slice (some ⟨g, 0, none⟩) n cap, .slice (some a) 1 c2]).run P w =
      .ok (.slice (some ⟨g, 0, none⟩) (n + 1) cap) (w.setCell ⟨g, n, none⟩ z) := by
  have hfc := run_firstCells_some (P := P) w i.size 1 a 1 c2 [z] (by simp [hs]) (fun j u hj => by
    cases j with
    | zero => simp at hj; subst hj; rw [ha0]; exact hz
    | succ j => simp at hj)
  rw [hs] at hfc
  have hst := storeOne P g n w z c hc hf h1
  simp [Builtin.append_, run_underlying ht, sizeOf, typeInfo, hi, hs, Builtin.lenOf, hroom, hfc, Addr.add_lit, hst]

/-- A slice of the bytes l: of a row that '[]byte' laid (noughts behind the bytes), or of a row of its own. -/
def PadAt (e : TypeId) (w : World) (base : Nat) (v : Value) (l : List UInt8) : Prop :=
  (w.ownsRow base e 1 v l.length (Lib.byteCells l)) ∨
  ∃ g cap, base ≤ g ∧ v = .slice (some ⟨g, 0, none⟩) l.length cap ∧ l.length ≤ cap ∧ cap ≤ maxLen ∧ w.heap[g]? = some (.cells (Lib.byteCells (l ++ List.replicate (cap - l.length) 0)).toArray e (cap, cap + 1))
section
variable {P : Program} {e : TypeId} {w : World} {base : Nat} {v : Value} {l : List UInt8}
theorem bcells_at (l : List UInt8) (j : Nat) (u : Value) (h : (Lib.byteCells l)[j]? = some u) : ∃ b, l[j]? = some b ∧ u = .int .u8 b.toNat := by
  unfold Lib.byteCells at h
  rw [List.getElem?_map] at h
  cases hj : l[j]? with
  | none => rw [hj] at h; cases h
  | some b => rw [hj] at h; exact ⟨b, rfl, (Option.some.inj h).symm⟩
theorem bcells_get (l : List UInt8) (j : Nat) : (Lib.byteCells l)[j]? = (l[j]?).map fun b => Value.int .u8 b.toNat := by
  unfold Lib.byteCells
  rw [List.getElem?_map]
theorem PadAt.slice (h : PadAt e w base v l) : ∃ p cap, v = .slice p l.length cap := by
  rcases h with h | ⟨g, cap, _, rfl, _⟩
  · rcases h.2 with ⟨rfl, hn⟩ | ⟨g, cap, cur, rfl, _⟩
    · exact ⟨none, 0, by rw [hn]⟩
    · exact ⟨_, _, rfl⟩
  · exact ⟨_, _, rfl⟩
theorem PadAt.alloc (h : PadAt e w base v l) (o : Obj) : PadAt e (w.alloc o) base v l := by
  rcases h with h | ⟨g, cap, hb, hv, h1, h2, hg⟩
  · exact .inl (h.alloc o)
  · refine .inr ⟨g, cap, hb, hv, h1, h2, ?_⟩
    rw [Below.heap_alloc w o g (Array.getElem?_eq_some_iff.1 hg).1]
    exact hg
theorem PadAt.cellAt (h : PadAt e w base v l) {g cap : Nat} (hv : v = .slice (some ⟨g, 0, none⟩) l.length cap) : ∀ j (hj : j < l.length), w.cell? ((⟨g, 0, none⟩ : Addr).add j) = some (.int .u8 (l[j].toNat : Int)) := by
  intro j hj
  rcases h with h | ⟨g', cap', _, rfl, h1, _, hg⟩
  · refine h.cells (g := g) (by rw [hv]; rfl) j _ ?_
    rw [bcells_get, List.getElem?_eq_getElem hj]
    rfl
  · injection hv with e1
    injection e1 with e1
    injection e1 with e1
    subst e1
    have hadd : (⟨g', 0, none⟩ : Addr).add j = ⟨g', j, none⟩ := by unfold Addr.add; split <;> simp_all
    rw [hadd, cell_of_row w g' j _ e _ hg]
    show (Lib.byteCells _).toArray[j]? = _
    rw [List.getElem?_toArray, bcells_get, List.getElem?_append_left hj, List.getElem?_eq_getElem hj]
    rfl
theorem PadAt.own (h : PadAt e w base v l) {g : Nat} (hg : v.ownBlock = some g) : base ≤ g := by
  rcases h with h | ⟨g', cap, hb, rfl, _⟩
  · exact (h.lt g hg).1
  · simp [Value.ownBlock] at hg
    omega
theorem PadAt.addr {p : Option Addr} {n cap : Nat} (h : PadAt e w base (.slice p n cap) l) (hl : 0 < l.length) (hn : n = l.length) : ∃ g, p = some ⟨g, 0, none⟩ := by
  rcases h with h | ⟨g', cap', hb, h0, _⟩
  · rcases h.2 with ⟨_, h0⟩ | ⟨g', cap', cur, h0, _⟩
    · omega
    · injection h0 with h0
      exact ⟨g', h0⟩
  · injection h0 with h0
    exact ⟨g', h0⟩
theorem pad_step (t ty : TypeId) (i : TypeInfo) (ht : P.underlying t = some (.slice e)) (hi : P.info? e = some i) (hz : i.zero = some (.int .u8 0)) (hs : i.size = 1) (hby : i.bytes = 1)
    (h : PadAt e w base v l) (a : Addr) (ha0 : a.add 0 = a) (hc : w.cell? a = some (.int .u8 0)) (hl : l.length + 1 ≤ 140737488355328) (hbase : base ≤ w.heap.size) :
    ∃ v' w', (Builtin.append_ #[t, t] ty #[v, .slice (some a) 1 1]).run P w = .ok v' w' ∧ PadAt e w' base v' (l ++ [0]) ∧ w.grownBy w' v.ownBlock := by
  have hnews : ∀ j u, ([Value.int .u8 0])[j]? = some u → w.cell? (a.add j) = some u := fun j u hj => by
    cases j with
    | zero => simp at hj; subst hj; rw [ha0]; exact hc
    | succ j => simp at hj
  have e1 : Lib.byteCells (l ++ [0]) = Lib.byteCells l ++ [.int .u8 0] := by simp [Lib.byteCells]
  have hmx : l.length + 1 ≤ maxLen := by unfold maxLen; omega
  rcases h with h | ⟨g, cap, hb, rfl, h1, h2, hg⟩
  · obtain ⟨v', w', r1, r2, r3, _⟩ := run_append_own (P := P) w base t ty e i (.int .u8 0) 1 1 ht hi hz hs hby rfl (by decide) v l.length _ h a 1 1 [.int .u8 0] rfl hnews (by intro u hu; simp at hu; subst hu; rfl) hmx (by omega) hbase
    refine ⟨v', w', r1, .inl ?_, r3⟩
    rw [e1, List.length_append]
    exact r2
  · by_cases hroom : l.length + 1 ≤ cap
    · have hcell : w.cell? ⟨g, l.length, none⟩ = some (.int .u8 0) := by
        rw [cell_of_row w g _ _ e _ hg]
        show (Lib.byteCells _).toArray[l.length]? = _
        rw [List.getElem?_toArray, bcells_get, List.getElem?_append_right (Nat.le_refl _), Nat.sub_self, List.getElem?_replicate, if_pos (by omega)]
        rfl
      have hfr : w.frozen? ⟨g, l.length, none⟩ = false := by
        unfold World.frozen?
        rw [hg]
        simp
        omega
      refine ⟨_, _, append_in P w t ty e i ht hi hs g l.length cap _ hcell hfr hroom a 1 _ hc ha0 rfl, .inr ⟨g, cap, hb, by simp, by simp; omega, h2, ?_⟩, ?_⟩
      · have h3 := setCell_eq_setRow w g l.length _ e (cap, cap + 1) (.int .u8 0) hg
        rw [h3, setRow_heap w g _ _ e _ hg]
        refine congrArg (fun c => some (Obj.cells c e (cap, cap + 1))) ?_
        rw [List.setIfInBounds_toArray]
        congr 1
        have e2 : cap - l.length = (cap - (l ++ [0]).length) + 1 := by simp; omega
        rw [e2, List.replicate_succ, List.append_assoc]
        show (Lib.byteCells _).set _ _ = _
        apply List.ext_getElem?
        intro j
        rw [List.getElem?_set]
        by_cases hj : l.length = j
        · subst hj
          rw [if_pos rfl, Lib.byteCells_length, if_pos (by simp), bcells_get, List.getElem?_append_right (Nat.le_refl _), Nat.sub_self]
          rfl
        · rw [if_neg hj]
          rfl
      · exact ⟨rfl, rfl, rfl, by simp, fun k hk hne => Below.heap_setCell w _ _ k (by simpa [Value.ownBlock] using hne)⟩
    · have hcap : cap = l.length := by omega
      subst hcap
      have hmark : PadAt e w base (.slice (some ⟨g, 0, none⟩) l.length l.length) l := .inr ⟨g, l.length, hb, rfl, h1, h2, hg⟩
      have holds : ∀ j u, (Lib.byteCells l)[j]? = some u → w.cell? ((⟨g, 0, none⟩ : Addr).add j) = some u := fun j u hu => by
        obtain ⟨b, hb2, rfl⟩ := bcells_at l j u hu
        obtain ⟨hj, rfl⟩ := List.getElem?_eq_some_iff.1 hb2
        exact hmark.cellAt rfl j hj
      have hr := run_append_grow (P := P) w t ty e i (.int .u8 0) ht hi hz ⟨g, 0, none⟩ l.length l.length (Lib.byteCells l) (by rw [Lib.byteCells_length, hs, Nat.mul_one]) holds a 1 1 [.int .u8 0] (by rw [hs]; rfl) hnews (by omega) (by omega) (growslice_fits (by omega) (by rw [hby]; omega))
      have hge := grownCap_ge w (l.length + 1) l.length e
      have hcm2 : grownCap w (l.length + 1) l.length e ≤ maxLen := grownCap_le_maxLen w (l.length + 1) l.length e hmx
      refine ⟨_, _, hr, .inl ⟨by rw [Lib.byteCells_length, Nat.mul_one], .inr ⟨w.heap.size, _, _, by rw [List.length_append]; rfl, hbase, heap_alloc_new w.drew _, by rw [List.length_append]; exact hge, hcm2, ?_, ?_⟩⟩, ⟨rfl, rfl, rfl, by simp, fun k hk _ => Below.heap_alloc w.drew _ k hk⟩⟩
      · simp [size_zeroCells, Lib.byteCells_length, Value.cells]
        omega
      · rw [e1]
        simp only [Array.toList_append, List.append_assoc, Nat.mul_one]
        rw [← List.append_assoc]
        exact List.take_left' (by simp [Lib.byteCells_length])
end
end Go.Proofs.YtocfaglcaefnoaaDoor
