/- The tables' cells out of a row's list. -/
import Derived.Test.YtocfaglcaefnoaaDoorBlockWords
import Derived.Test.YtocfaglcaefnoaaDoorRows
import Derived.OpenShut
import Derived.Lib.LaidTab
set_option linter.unusedVariables false
set_option linter.unusedSimpArgs false
namespace Go.Proofs.YtocfaglcaefnoaaDoor
open Go.RowKit

theorem laidVars_mem {P : Program} {w : World} {n : String} {d : DataW Unit} : ∀ {l : List (String × DataW Unit)} {ps : List MemPlace}, DataW.LaidVars P w l ps → (n, d) ∈ l →
    ∃ g t cs fuel p, P.globalNamed n = some g ∧ (P.globals[g]?).map (·.type) = some t ∧ w.var? P n = some cs ∧ DataW.trod (fun _ => ()) P w 0 (fun _ => true) false fuel t cs.toList = some (d, p)
  | [], _, _, hm => by cases hm
  | (n', d') :: r, _, h, hm => by
    obtain ⟨g, t, cs, fuel, p, q, hg, ht, hv, hd, hr, _⟩ := h
    rcases List.mem_cons.1 hm with he | hm
    · cases he
      exact ⟨g, t, cs, fuel, p, hg, ht, hv, hd⟩
    · exact laidVars_mem hr hm
/-- A table of integers, of the list. -/
theorem tab_mem {P : Program} {W : World} {l : List (String × DataW Unit)} {name : String} {k : IntKind} {zs : List Int} {g : Nat} {t e : TypeId} {n : Nat}
    (hg : P.globalNamed name = some g) (hty : (P.globals[g]?).map (·.type) = some t) (ht : P.underlying t = some (.array n e)) (he : P.underlying e = some (.int k)) (hce : P.cellsOf e = 1) (hct : P.cellsOf t = n)
    (h : laidMet P l W) (hm : (name, Lib.tabData k zs) ∈ l) : ∀ i, i < zs.length → W.cell? ⟨g, i, none⟩ = some (.int k (zs.getD i 0)) := by
  obtain ⟨ps, hl, _⟩ := h
  obtain ⟨g', t', cs, fuel, p, hg', ht', hvar, hd⟩ := laidVars_mem hl hm
  obtain rfl := Option.some.inj (hg.symm.trans hg')
  obtain rfl := Option.some.inj (hty.symm.trans ht')
  have hc := Lib.cells_of_tab ht he hce hct hd
  intro i hi
  have := World.var?_cell hg hvar i
  rw [this, ← Array.getElem?_toList, hc]
  simp [hi]
/-- A table of rows of integers, of the list. -/
theorem tab2_mem {P : Program} {W : World} {l : List (String × DataW Unit)} {name : String} {k : IntKind} {rows : List (List Int)} {g : Nat} {t r e : TypeId} {n m : Nat}
    (hg : P.globalNamed name = some g) (hty : (P.globals[g]?).map (·.type) = some t) (ht : P.underlying t = some (.array n r)) (hr : P.underlying r = some (.array m e)) (he : P.underlying e = some (.int k)) (hce : P.cellsOf e = 1) (hcr : P.cellsOf r = m)
    (h : laidMet P l W) (hm : (name, .agg (rows.map (Lib.tabData k))) ∈ l) : ∀ i j, i < n → j < m → W.cell? ⟨g, i * m + j, none⟩ = some (.int k ((rows.getD i []).getD j 0)) := by
  obtain ⟨ps, hl, _⟩ := h
  obtain ⟨g', t', cs, fuel, p, hg', ht', hvar, hd⟩ := laidVars_mem hl hm
  obtain rfl := Option.some.inj (hg.symm.trans hg')
  obtain rfl := Option.some.inj (hty.symm.trans ht')
  obtain ⟨xs, f, rfl, hx, hlen, hxl, hel⟩ := DataW.trod_array ht hd
  intro i j hi hj
  have h1 := hel i hi
  rw [hcr] at h1
  have hxi : i < xs.length := by omega
  rw [List.getElem?_eq_getElem hxi] at h1
  have hrow : xs.map (·.1) = rows.map (Lib.tabData k) := by
    have h0 : (DataW.agg (rows.map (Lib.tabData k)) : DataW Unit) = DataW.agg (xs.map (·.1)) := congrArg Prod.fst hx
    injection h0 with h0
    exact h0.symm
  have hrl : xs.length = rows.length := by
    have := congrArg List.length hrow
    simpa using this
  have hri : xs[i].1 = Lib.tabData k (rows.getD i []) := by
    have h2 : (xs.map (·.1))[i]? = (rows.map (Lib.tabData k))[i]? := by rw [hrow]
    rw [List.getElem?_map, List.getElem?_map, List.getElem?_eq_getElem hxi, List.getElem?_eq_getElem (by omega : i < rows.length)] at h2
    rw [List.getD_eq_getElem?_getD, List.getElem?_eq_getElem (by omega : i < rows.length)]
    exact Option.some.inj h2
  have h3 : DataW.trod (fun _ => ()) P W 0 (fun _ => true) false f r (List.take m (List.drop (i * m) cs.toList)) = some (Lib.tabData k (rows.getD i []), xs[i].2) := by
    rw [h1, ← hri]
  have hc := Lib.cells_of_tab hr he hce hcr h3
  have hz : (rows.getD i []).length = m := by
    obtain ⟨ys, f', rfl, hy, _, hyl, _⟩ := DataW.trod_array hr h3
    have h0 : (Lib.tabData k (rows.getD i []) : DataW Unit) = DataW.agg (ys.map (·.1)) := congrArg Prod.fst hy
    unfold Lib.tabData at h0
    injection h0 with h0
    have := congrArg List.length h0
    simp only [List.length_map] at this
    omega
  have h4 := World.var?_cell hg hvar (i * m + j)
  rw [h4, ← Array.getElem?_toList]
  have h5 := congrArg (·[j]?) hc
  simp only [List.getElem?_take, List.getElem?_drop, if_pos hj, List.getElem?_map] at h5
  rw [h5]
  clear h5 h4 hc h3 hri
  generalize rows.getD i [] = R at *
  have hjR : j < R.length := by omega
  rw [List.getD_eq_getElem?_getD, List.getElem?_eq_getElem hjR]
  rfl

theorem gBegins : Tryd.prog.globalNamed "cartouche/blake.begins" = some 0 := by kernel_rfl
theorem gMixings : Tryd.prog.globalNamed "cartouche/blake.mixings" = some 1 := by kernel_rfl
theorem gOrders : Tryd.prog.globalNamed "cartouche/blake.orders" = some 2 := by kernel_rfl
def natsI (l : List Nat) : List Int := l.map Int.ofNat
theorem natsI_at (l : List (List Nat)) (i j : Nat) : ((l.map natsI).getD i []).getD j 0 = (((l.getD i []).getD j 0 : Nat) : Int) := by
  rw [List.getD_eq_getElem?_getD, List.getD_eq_getElem?_getD, List.getD_eq_getElem?_getD, List.getD_eq_getElem?_getD, List.getElem?_map]
  cases l[i]? with
  | none => rfl
  | some a =>
    show ((natsI a)[j]?).getD 0 = ((a[j]?).getD 0 : Nat)
    unfold natsI
    rw [List.getElem?_map]
    cases a[j]? <;> rfl
/-- What a row's list gives. -/
theorem tabs_of_laid {l : List (String × DataW Unit)} {W : World} (h : laidMet Tryd.prog l W) (hb : ("cartouche/blake.begins", Rows.laid_cartouche_blake_begins) ∈ l) (ho : ("cartouche/blake.orders", Rows.laid_cartouche_blake_orders) ∈ l) (hm : ("cartouche/blake.mixings", Rows.laid_cartouche_blake_mixings) ∈ l) : Tabs W := by
  have e1 : (Rows.laid_cartouche_blake_begins : DataW Unit) = Lib.tabData .u32 begins := rfl
  have e2 : (Rows.laid_cartouche_blake_orders : DataW Unit) = .agg ((orders.map natsI).map (Lib.tabData .u8)) := rfl
  have e3 : (Rows.laid_cartouche_blake_mixings : DataW Unit) = .agg ((mixings.map natsI).map (Lib.tabData .u8)) := rfl
  rw [e1] at hb
  rw [e2] at ho
  rw [e3] at hm
  have c1 := tab_mem gBegins (t := 24) (by kernel_rfl) Tryd.underlying24 Tryd.underlying23 (by kernel_rfl) (by kernel_rfl) h hb
  have c2 := tab2_mem gOrders (t := 57) (by kernel_rfl) Tryd.underlying57 Tryd.underlying56 Tryd.underlying5 (by kernel_rfl) (by kernel_rfl) h ho
  have c3 := tab2_mem gMixings (t := 55) (by kernel_rfl) Tryd.underlying55 Tryd.underlying51 Tryd.underlying5 (by kernel_rfl) (by kernel_rfl) h hm
  have lt : ∀ (g i : Nat) (v : Value), W.cell? ⟨g, i, none⟩ = some v → g < W.heap.size := by
    intro g i v hv
    simp only [World.cell?] at hv
    cases hh : W.heap[g]? with
    | none => rw [hh] at hv; simp at hv
    | some x => exact (Array.getElem?_eq_some_iff.1 hh).1
  refine ⟨⟨lt _ _ _ (c1 0 (by decide)), lt _ _ _ (c3 0 0 (by decide) (by decide)), lt _ _ _ (c2 0 0 (by decide) (by decide))⟩, fun i hi => c1 i hi, fun i j hi hj => ?_, fun r j hr hj => ?_⟩
  · rw [c3 i j hi hj, natsI_at]
    rfl
  · rw [c2 r j hr hj, natsI_at]
    rfl
end Go.Proofs.YtocfaglcaefnoaaDoor
