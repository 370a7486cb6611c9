/- The tables' cells out of a row's list. · What all rows of the seat share: the post of a law, the witness' world. · READINGS OPENED BY KINDS: what a parameter's type reads as, whatever it is made of. -/
import Derived.Test.YtjlpjpjodhkpdaaGreatDoorBase
import Derived.Test.YtjlpjpjodhkpdaaGreatDoorRows
import Derived.OpenShut
import Derived.Lib.LaidTab
import Derived.Test.YtjlpjpjodhkpdaaGreatDoorCards
import Derived.Test.YtjlpjpjodhkpdaaGreatDoorTie
import Derived.WalkKit
import Derived.ProofKit
import Derived.Deep.DeepHandedRow
import Derived.Test.YtjlpjpjodhkpdaaGreatDoorWWords
import Derived.Deep.Slices
import Derived.SizedLaws
set_option linter.unusedVariables false
set_option linter.unusedSimpArgs false
namespace Go.Proofs.YtjlpjpjodhkpdaaGreatDoor
open Go.RowKit
theorem laidVars_mem {P : Program} {w : World} {n : String} {d : DataW Unit} : ∀ {l : List (String × DataW Unit)} {ps : List MemPlace}, DataW.LaidVars P w l ps → (n, d) ∈ l →
 ∃ g t cs fuel p, P.globalNamed n = some g ∧ (P.globals[g]?).map (·.type) = some t ∧ w.var? P n = some cs ∧ DataW.trod (fun _ => ()) P w 0 (fun _ => true) false fuel t cs.toList = some (d, p)
 | [], _, _, hm => by cases hm
 | (n', d') :: r, _, h, hm => by
   obtain ⟨g, t, cs, fuel, p, q, hg, ht, hv, hd, hr, _⟩ := h
   rcases List.mem_cons.1 hm with he | hm
   · cases he
     exact ⟨g, t, cs, fuel, p, hg, ht, hv, hd⟩
   · exact laidVars_mem hr hm
theorem tab_mem {P : Program} {W : World} {l : List (String × DataW Unit)} {name : String} {k : IntKind} {zs : List Int} {g : Nat} {t e : TypeId} {n : Nat}
 (hg : P.globalNamed name = some g) (hty : (P.globals[g]?).map (·.type) = some t) (ht : P.underlying t = some (.array n e)) (he : P.underlying e = some (.int k)) (hce : P.cellsOf e = 1) (hct : P.cellsOf t = n)
 (h : laidMet P l W) (hm : (name, Lib.tabData k zs) ∈ l) : ∀ i, i < zs.length → W.cell? ⟨g, i, none⟩ = some (.int k (zs.getD i 0)) := by
 obtain ⟨ps, hl, _⟩ := h
 obtain ⟨g', t', cs, fuel, p, hg', ht', hvar, hd⟩ := laidVars_mem hl hm
 obtain rfl := Option.some.inj (hg.symm.trans hg')
 obtain rfl := Option.some.inj (hty.symm.trans ht')
 have hc := Lib.cells_of_tab ht he hce hct hd
 intro i hi
 have := World.var?_cell hg hvar i
 rw [this, ← Array.getElem?_toList, hc]
 simp [hi]
theorem tab2_mem {P : Program} {W : World} {l : List (String × DataW Unit)} {name : String} {k : IntKind} {rows : List (List Int)} {g : Nat} {t r e : TypeId} {n m : Nat}
 (hg : P.globalNamed name = some g) (hty : (P.globals[g]?).map (·.type) = some t) (ht : P.underlying t = some (.array n r)) (hr : P.underlying r = some (.array m e)) (he : P.underlying e = some (.int k)) (hce : P.cellsOf e = 1) (hcr : P.cellsOf r = m)
 (h : laidMet P l W) (hm : (name, .agg (rows.map (Lib.tabData k))) ∈ l) : ∀ i j, i < n → j < m → W.cell? ⟨g, i * m + j, none⟩ = some (.int k ((rows.getD i []).getD j 0)) := by
 obtain ⟨ps, hl, _⟩ := h
 obtain ⟨g', t', cs, fuel, p, hg', ht', hvar, hd⟩ := laidVars_mem hl hm
 obtain rfl := Option.some.inj (hg.symm.trans hg')
 obtain rfl := Option.some.inj (hty.symm.trans ht')
 obtain ⟨xs, f, rfl, hx, hlen, hxl, hel⟩ := DataW.trod_array ht hd
 intro i j hi hj
 have h1 := hel i hi
 rw [hcr] at h1
 have hxi : i < xs.length := by omega
 rw [List.getElem?_eq_getElem hxi] at h1
 have hrow : xs.map (·.1) = rows.map (Lib.tabData k) := by
  have h0 : (DataW.agg (rows.map (Lib.tabData k)) : DataW Unit) = DataW.agg (xs.map (·.1)) := congrArg Prod.fst hx
  injection h0 with h0
  exact h0.symm
 have hrl : xs.length = rows.length := by
  have := congrArg List.length hrow
  simpa using this
 have hri : xs[i].1 = Lib.tabData k (rows.getD i []) := by
  have h2 : (xs.map (·.1))[i]? = (rows.map (Lib.tabData k))[i]? := by rw [hrow]
  rw [List.getElem?_map, List.getElem?_map, List.getElem?_eq_getElem hxi, List.getElem?_eq_getElem (by omega : i < rows.length)] at h2
  rw [List.getD_eq_getElem?_getD, List.getElem?_eq_getElem (by omega : i < rows.length)]
  exact Option.some.inj h2
 have h3 : DataW.trod (fun _ => ()) P W 0 (fun _ => true) false f r (List.take m (List.drop (i * m) cs.toList)) = some (Lib.tabData k (rows.getD i []), xs[i].2) := by
  rw [h1, ← hri]
 have hc := Lib.cells_of_tab hr he hce hcr h3
 have hz : (rows.getD i []).length = m := by
  obtain ⟨ys, f', rfl, hy, _, hyl, _⟩ := DataW.trod_array hr h3
  have h0 : (Lib.tabData k (rows.getD i []) : DataW Unit) = DataW.agg (ys.map (·.1)) := congrArg Prod.fst hy
  unfold Lib.tabData at h0
  injection h0 with h0
  have := congrArg List.length h0
  simp only [List.length_map] at this
  omega
 have h4 := World.var?_cell hg hvar (i * m + j)
 rw [h4, ← Array.getElem?_toList]
 have h5 := congrArg (·[j]?) hc
 simp only [List.getElem?_take, List.getElem?_drop, if_pos hj, List.getElem?_map] at h5
 rw [h5]
 clear h5 h4 hc h3 hri
 generalize rows.getD i [] = R at *
 have hjR : j < R.length := by omega
 rw [List.getD_eq_getElem?_getD, List.getElem?_eq_getElem hjR]
 rfl
theorem gBegins : Tryz.prog.globalNamed "cartouche/blake.begins" = some 0 := by kernel_rfl
theorem gMixings : Tryz.prog.globalNamed "cartouche/blake.mixings" = some 1 := by kernel_rfl
theorem gOrders : Tryz.prog.globalNamed "cartouche/blake.orders" = some 2 := by kernel_rfl
def natsI (l : List Nat) : List Int := l.map Int.ofNat
theorem natsI_at (l : List (List Nat)) (i j : Nat) : ((l.map natsI).getD i []).getD j 0 = (((l.getD i []).getD j 0 : Nat) : Int) := by
 rw [List.getD_eq_getElem?_getD, List.getD_eq_getElem?_getD, List.getD_eq_getElem?_getD, List.getD_eq_getElem?_getD, List.getElem?_map]
 cases l[i]? with
 | none => rfl
 | some a =>
   show ((natsI a)[j]?).getD 0 = ((a[j]?).getD 0 : Nat)
   unfold natsI
   rw [List.getElem?_map]
   cases a[j]? <;> rfl
theorem tabs_of_laid {l : List (String × DataW Unit)} {W : World} (h : laidMet Tryz.prog l W) (hb : ("cartouche/blake.begins", Rows.laid_cartouche_blake_begins) ∈ l) (ho : ("cartouche/blake.orders", Rows.laid_cartouche_blake_orders) ∈ l) (hm : ("cartouche/blake.mixings", Rows.laid_cartouche_blake_mixings) ∈ l) : Tabs W := by
 have e1 : (Rows.laid_cartouche_blake_begins : DataW Unit) = Lib.tabData .u32 begins := rfl
 have e2 : (Rows.laid_cartouche_blake_orders : DataW Unit) = .agg ((orders.map natsI).map (Lib.tabData .u8)) := rfl
 have e3 : (Rows.laid_cartouche_blake_mixings : DataW Unit) = .agg ((mixings.map natsI).map (Lib.tabData .u8)) := rfl
 rw [e1] at hb
 rw [e2] at ho
 rw [e3] at hm
 have c1 := tab_mem gBegins (t := 95) (by kernel_rfl) Tryz.underlying95 Tryz.underlying94 (by kernel_rfl) (by kernel_rfl) h hb
 have c2 := tab2_mem gOrders (t := 190) (by kernel_rfl) Tryz.underlying190 Tryz.underlying189 Tryz.underlying5 (by kernel_rfl) (by kernel_rfl) h ho
 have c3 := tab2_mem gMixings (t := 188) (by kernel_rfl) Tryz.underlying188 Tryz.underlying184 Tryz.underlying5 (by kernel_rfl) (by kernel_rfl) h hm
 have lt : ∀ (g i : Nat) (v : Value), W.cell? ⟨g, i, none⟩ = some v → g < W.heap.size := by
  intro g i v hv
  simp only [World.cell?] at hv
  cases hh : W.heap[g]? with
  | none => rw [hh] at hv; simp at hv
  | some x => exact (Array.getElem?_eq_some_iff.1 hh).1
 refine ⟨⟨lt _ _ _ (c1 0 (by decide)), lt _ _ _ (c3 0 0 (by decide) (by decide)), lt _ _ _ (c2 0 0 (by decide) (by decide))⟩, fun i hi => c1 i hi, fun i j hi hj => ?_, fun r j hr hj => ?_⟩
 · rw [c3 i j hi hj, natsI_at]
   rfl
 · rw [c2 r j hr hj, natsI_at]
   rfl
end Go.Proofs.YtjlpjpjodhkpdaaGreatDoor
namespace Go.Proofs.YtjlpjpjodhkpdaaGreatDoor
open Go.ChangeShapes Go.WideShapes Go.ChangeAt Go.RowKit
theorem own : ownKnob Tryz.prog.godebug = none := by kernel_rfl
theorem laidOut : laidOutB Tryz.prog = true := by kernel_rfl
section
variable {H : Type} {enc : TypeId × Value → H} {P : Program}
theorem below_trodAll (hl : laidOutB P = true) {W W' : World} (hb : Below W.heap.size W W') : ∀ {ts : List TypeId} {vs : List Value} {ds : List (DataW H)} {ps : List MemPlace}, (∀ t ∈ ts, P.readableRec t = true ∧ t < P.types.size) →
 DataW.TrodAll enc P W 0 (fun _ => true) true ts vs ds ps → (∀ x ∈ ps, x.block < W.heap.size) → DataW.TrodAll enc P W' 0 (fun b => decide (b < W.heap.size)) true ts vs ds ps
 | [], [], [], _, _, h, _ => h
 | t :: ts, v :: vs, d :: ds, ps, hr, h, hlt => by
   obtain ⟨p, q, h0, h1, rfl⟩ := h
   exact ⟨p, q, Below.trod hl (hr t (by simp)).1 (hr t (by simp)).2 h0 hb (fun x hx => hlt x (by simp [hx])), below_trodAll hl hb (fun t' ht => hr t' (by simp [ht])) h1 (fun x hx => hlt x (by simp [hx])), rfl⟩
 | [], _ :: _, _, _, _, h, _ => h.elim
 | [], [], _ :: _, _, _, h, _ => h.elim
 | _ :: _, [], _, _, _, h, _ => h.elim
 | _ :: _, _ :: _, [], _, _, h, _ => h.elim
theorem law_post {f : Func} {s : ChangeSpec} {apart fresh handsOn : Bool} {W W' : World} {args : Array Value} {ds gs : List (DataW H)} {before : List MemPlace} {tb : TypeId}
 (hl : laidOutB P = true) (hrd : ∀ t ∈ f.params.toList, P.readableRec t = true ∧ t < P.types.size) (hv : s.vars = []) (hr : f.resultTypes.toList = [tb]) (ht : P.underlying tb = some .bool)
 (hfn : s.fn H ds = { results := [.lit (.bool true)], args := ds })
 (hW : DataW.Whole enc P f.params.toList s.vars apart W args.toList ds gs before) (hb : Below W.heap.size W W') : s.post enc P f apart fresh handsOn false W args (.bool true) W' := by
 have hlt := hW.lt
 have hW' := hW
 obtain ⟨p, q, hA, hV, rfl, hfz, hnd⟩ := hW
 rw [hv] at hV
 obtain ⟨rfl, rfl⟩ := trodVars_none hV
 have hsz : f.resultTypes.size = 1 := by rw [← Array.length_toList, hr]; rfl
 refine ⟨ds, [], p ++ [], [], p, [], hW', ?_, ?_, ?_, hb.frame _, fun h => by cases h⟩
 · rw [List.append_nil, hfn, hr, hsz]
   exact trodAll_cons_mk (shut_bool ht _) trodAll_mk0
 · rw [List.append_nil, hfn]
   exact below_trodAll hl hb hrd hA (fun x hx => hlt x (by simp [hx]))
 · rw [List.append_nil, hfn, hv]
   rfl
end
def tabCells (k : IntKind) (zs : List Int) : Array Value := (zs.map fun z => Value.int k z).toArray
noncomputable def laidWorld (os : Os) : World :=
 let m := fun (g : Nat) (cs : Array Value) (h : Array Obj) => h.modify g fun
  | .cells _ t frozen => .cells cs t frozen
  | o => o
 { World.holding Tryz.prog os ⟨#[], #[], []⟩ with heap := m 1 (tabCells .u8 (mixings.flatMap natsI)) (m 2 (tabCells .u8 (orders.flatMap natsI)) (m 0 (tabCells .u32 begins) (World.holding Tryz.prog os ⟨#[], #[], []⟩).heap)) }
end Go.Proofs.YtjlpjpjodhkpdaaGreatDoor
namespace Go.Proofs.YtjlpjpjodhkpdaaGreatDoor
open Go.ChangeShapes Go.WideShapes Go.RowKit Go.Deep Go.Proofs.YtjlpjpjodhkpdaaGreatDoorW.PrintWords
structure OpensB {α : Type} (P : Program) (t : TypeId) (d : Kd α) (B : α → Prop) : Prop where
 out : ∀ {H : Type} (enc : TypeId × Value → H) (w : World) (base : Nat) (spare : Nat → Bool) (held : Bool) (fuel : Nat) (cs : List Value) (x : DataW H × List MemPlace),
  DataW.trod enc P w base spare held fuel t cs = some x → (x.1.weights P t).all (· ≤ reachBytes) = true → ∃ a : α, d.K w a cs ∧ B a
structure OpensF {α : Type} (P : Program) (fs : List Field) (off tot : Nat) (d : Kd α) (B : α → Prop) : Prop where
 out : ∀ {H : Type} (enc : TypeId × Value → H) (w : World) (base : Nat) (spare : Nat → Bool) (held : Bool) (n : Nat) (cs : List Value) (xs : List (DataW H × List MemPlace)),
  cs.length = tot → xs.length = fs.length → (∀ (i : Nat) (f : Field), fs[i]? = some f → DataW.trod enc P w base spare held n f.type ((cs.drop f.offset).take (P.cellsOf f.type)) = xs[i]?) →
  (DataW.weightsEach P (fs.map (·.type)) (xs.map (·.1))).all (· ≤ reachBytes) = true → ∃ a : α, d.K w a (cs.drop off) ∧ B a
section
variable {P : Program} {t e : TypeId} {α β : Type} {d : Kd α} {d' : Kd β} {B : α → Prop} {B' : β → Prop}
theorem opens_int {k : IntKind} (ht : P.underlying t = some (.int k)) : OpensB P t (Kd.int k) (fun a => (Lit.int k a).wf = true) := by
 refine ⟨?_⟩
 intro H enc w base spare held fuel cs x h _
 obtain ⟨n, rfl, rfl, hw⟩ := DataW.trod_int ht h
 exact ⟨n, rfl, hw⟩
theorem opens_bool (ht : P.underlying t = some .bool) : OpensB P t Kd.bool (fun _ => True) := by
 refine ⟨?_⟩
 intro H enc w base spare held fuel cs x h _
 obtain ⟨b, rfl, rfl⟩ := DataW.trod_bool ht h
 exact ⟨b, rfl, trivial⟩
theorem opens_string (ht : P.underlying t = some .string) : OpensB P t Kd.string (fun a => a.size ≤ 140737488351232) := by
 refine ⟨?_⟩
 intro H enc w base spare held fuel cs x h hs
 obtain ⟨s, rfl, rfl, _⟩ := DataW.trod_string ht h
 refine ⟨s, rfl, ?_⟩
 have := List.all_eq_true.1 hs _ (show s.data.toList.length ∈ (DataW.lit (.string s.data.toList) : DataW H).weights P t by simp [DataW.weights])
 rw [Array.length_toList] at this
 exact of_decide_eq_true this
theorem weights_all_mem {H : Type} : ∀ {l : List (DataW H)} {x : DataW H}, x ∈ l → ∀ n ∈ x.weights P e, n ∈ DataW.weightsAll P e l
 | y :: r, x, h, n, hn => by
   simp only [DataW.weightsAll, List.mem_append]
   rcases List.mem_cons.1 h with rfl | h
   · exact .inl hn
   · exact .inr (weights_all_mem h n hn)
theorem opens_slice {by_ : Nat} (ht : P.underlying t = some (.slice e)) (he : OpensB P e d B) (hc : P.cellsOf e = d.sz) (hb : P.bytesOf e = by_) :
 OpensB P t (Kd.slice e d) (fun xs => xs.length * by_ ≤ 140737488351232 ∧ ∀ x ∈ xs, B x) := by
 refine ⟨?_⟩
 intro H enc w base spare held fuel cs x h hs
 rcases open_slice ht h with ⟨rfl, rfl⟩ | ⟨a, len, cap, m, n, D, Pl, rfl, hbs, hl, hm, hmm, rfl, hx⟩
 · exact ⟨[], ⟨none, 0, rfl, Nat.le_refl _, Kd.C_nil d w⟩, by simp, by simp⟩
 · have hlm : len ≤ m := by rw [hmm]; split <;> omega
   have hmem : ∀ i, i < len → ((D i).weights P e).all (· ≤ reachBytes) = true := fun i hi => by
    rw [List.all_eq_true]
    intro q hq
    refine List.all_eq_true.1 hs q ?_
    simp only [DataW.weights, ht, List.mem_cons, List.mem_append]
    exact .inr (.inl (weights_all_mem (x := D i) (List.mem_map.2 ⟨i, List.mem_range.2 hi, rfl⟩) q hq))
   have hex : ∀ i : Fin len, ∃ a' : α, (∃ c, c.length = d.sz ∧ d.K w a' c ∧ ∀ j u, c[j]? = some u → w.cell? (a.add (i.val * d.sz + j)) = some u) ∧ B a' := fun i => by
    obtain ⟨cs', hc1, hc2⟩ := hx i.val (by omega)
    obtain ⟨a', hk, hB⟩ := he.out enc w base spare held n cs' _ hc2 (hmem i.val i.isLt)
    refine ⟨a', ⟨cs', d.K_len hk, hk, fun j u hj => ?_⟩, hB⟩
    obtain ⟨_, hlen, hat⟩ := World.cells?_some hc1
    have hjl : j < P.cellsOf e := by rw [← hlen]; exact (List.getElem?_eq_some_iff.1 hj).1
    have h3 := hat j hjl
    rw [hc] at h3
    rw [← Go.Deep.add_add, h3, hj]
   obtain ⟨F, hF⟩ := Classical.axiomOfChoice hex
   refine ⟨List.ofFn F, ⟨some a, cap, by simp, by simpa using hl, ?_⟩, ?_, ?_⟩
   · refine ⟨rfl, ?_, fun _ => ⟨a, rfl, fun j p hp => ?_⟩⟩
     · have : maxLen = 9223372036854775807 := rfl
       simp; omega
     · obtain ⟨hj, hp'⟩ := List.getElem?_eq_some_iff.1 hp
       simp only [List.length_ofFn] at hj
       simp only [List.getElem_ofFn] at hp'
       subst hp'
       exact (hF ⟨j, hj⟩).1
   · have h1 := List.all_eq_true.1 hs ((((List.range len).map D).length + ((List.range (m - len)).map fun j => D (len + j)).length) * P.bytesOf e) (by simp [DataW.weights, ht])
     have h2 := of_decide_eq_true h1
     rw [hb] at h2
     simp only [List.length_map, List.length_range, List.length_ofFn] at h2 ⊢
     have h3 : len * by_ ≤ (len + (m - len)) * by_ := Nat.mul_le_mul_right _ (by omega)
     have h4 : reachBytes = 140737488351232 := rfl
     omega
   · intro y hy
     obtain ⟨i, rfl⟩ := List.mem_ofFn.1 hy
     exact (hF i).2
theorem opens_last {f : Field} {off tot : Nat} (hf : f.offset = off) (htot : tot = off + P.cellsOf f.type) (h : OpensB P f.type d B) : OpensF P [f] off tot d B := by
 refine ⟨?_⟩
 intro H enc w base spare held n cs xs hcl hxl hx hs
 match xs, hxl with
 | [x], _ =>
   have h0 := hx 0 f rfl
   rw [hf, List.take_of_length_le (by rw [List.length_drop]; omega)] at h0
   refine h.out enc w base spare held n _ x h0 ?_
   simpa [DataW.weightsEach] using hs
theorem opens_cons {f : Field} {fs : List Field} {off tot m : Nat} (hf : f.offset = off) (hm : P.cellsOf f.type = m) (h : OpensB P f.type d B) (hr : OpensF P fs (off + m) tot d' B') :
 OpensF P (f :: fs) off tot (Kd.pair d d') (fun a => B a.1 ∧ B' a.2) := by
 refine ⟨?_⟩
 intro H enc w base spare held n cs xs hcl hxl hx hs
 match xs, hxl with
 | x :: xs, hxl =>
   have h0 := hx 0 f rfl
   rw [hf, hm] at h0
   simp only [List.map_cons, DataW.weightsEach, List.all_append, Bool.and_eq_true] at hs
   obtain ⟨a, hk, hB⟩ := h.out enc w base spare held n _ x h0 hs.1
   obtain ⟨b, hk', hB'⟩ := hr.out enc w base spare held n cs xs hcl (by simpa using hxl) (fun i g hg => by simpa using hx (i + 1) g (by simpa using hg)) hs.2
   refine ⟨(a, b), ⟨_, _, ?_, hk, hk'⟩, hB, hB'⟩
   rw [← List.drop_drop, List.take_append_drop]
theorem opens_struct {fs : Array Field} {tot : Nat} (ht : P.underlying t = some (.struct fs)) (hc : P.cellsOf t = tot) (h : OpensF P fs.toList 0 tot d B) : OpensB P t d B := by
 refine ⟨?_⟩
 intro H enc w base spare held fuel cs x hx hs
 obtain ⟨xs, n, _, rfl, hcl, hxl, hf⟩ := DataW.trod_struct ht hx
 have hs' : (DataW.weightsEach P (fs.toList.map (·.type)) (xs.map (·.1))).all (· ≤ reachBytes) = true := by
  simpa [DataW.weights, ht] using hs
 have := h.out enc w base spare held n cs xs (by rw [hcl, hc]) (by rw [hxl]; simp) (fun i f hi => hf i f (by simpa using hi)) hs'
 simpa using this
theorem opens_iso {f : β → α} (g : α → β) (hg : ∀ a, f (g a) = a) (h : OpensB P t d B) : OpensB P t (Kd.iso d f) (fun b => B (f b)) := by
 refine ⟨?_⟩
 intro H enc w base spare held fuel cs x hx hs
 obtain ⟨a, hk, hB⟩ := h.out enc w base spare held fuel cs x hx hs
 refine ⟨g a, ?_, by show B (f (g a)); rw [hg]; exact hB⟩
 show d.K w (f (g a)) cs
 rw [hg]
 exact hk
end
end Go.Proofs.YtjlpjpjodhkpdaaGreatDoor
