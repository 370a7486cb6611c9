/- redact.Shape (and slices.Clone of a history): in the form that the print takes. -/
import Derived.Test.YtbckobokiioeaaaDoorName
import Derived.Test.YtbckobokiioeaaaDoorQS0
import Derived.Laws.AppendOwn
import Derived.RangeFuncRecord
import Derived.Laws.Cover3
import Derived.Laws.OwnMore
set_option linter.unusedVariables false
set_option linter.unusedSimpArgs false
namespace Go.Proofs.YtbckobokiioeaaaDoor
open Go.RowKit Go.Maps Go.Proofs.YtbckobokiioeaaaDoor.Q Go.Proofs.YtbckobokiioeaaaDoorW.PrintWords

abbrev Evt := S26
def evE (x : Evt) : List Value := [.int .i64 x.f0, .int .i64 x.f1, .string x.f2, .string x.f3]
theorem evE_len (x : Evt) : (evE x).length = 4 := rfl
theorem evs_len (xs : List Evt) : (xs.flatMap evE).length = xs.length * 4 := by
  induction xs with
  | nil => rfl
  | cons x xs ih => rw [List.flatMap_cons, List.length_append, ih, evE_len, List.length_cons]; omega
theorem evs_get (xs : List Evt) : ∀ j x, xs[j]? = some x → ((xs.flatMap evE).drop (j * 4)).take 4 = evE x := by
  induction xs with
  | nil => intro j x h; simp at h
  | cons y xs ih =>
    intro j x h
    rw [List.flatMap_cons]
    cases j with
    | zero =>
      obtain rfl : y = x := by simpa using h
      rw [Nat.zero_mul, List.drop_zero, List.take_append_of_le_length (by rw [evE_len]; omega), List.take_of_length_le (by rw [evE_len]; omega)]
    | succ j =>
      rw [show (j + 1) * 4 = (evE y).length + j * 4 by rw [evE_len]; omega, List.drop_append]
      simp only [Nat.add_sub_cancel_left]
      rw [List.drop_of_length_le (by omega), List.nil_append]
      exact ih j x (by simpa using h)
theorem evs_R {w : World} {base : Nat} {v : Value} {xs : List Evt} (h : w.ownsRow base 26 4 v xs.length (xs.flatMap evE)) : Kd.R k26 26 w base (fun _ => True) v xs := by
  refine ⟨fun _ _ => trivial, xs.flatMap evE, h, evs_len xs, fun j p hj => ?_⟩
  rw [show k26.sz = 4 from rfl, evs_get xs j p hj]
  exact k26_mkM w base _ p
theorem evs_cells {w : World} {ad : Addr} {n : Nat} {l : List Evt} (h : Kd.C k26 w (some ad) n l) : ∀ j u, (l.flatMap evE)[j]? = some u → w.cell? (ad.add j) = some u := by
  intro j u hj
  have hlt := (List.getElem?_eq_some_iff.1 hj).1
  rw [evs_len] at hlt
  obtain ⟨x, hx⟩ : ∃ x, l[j / 4]? = some x := ⟨_, List.getElem?_eq_getElem (by omega)⟩
  obtain ⟨ad', e, hc⟩ := h.2.2 (by rw [← h.1]; have := (List.getElem?_eq_some_iff.1 hx).1; omega)
  injection e with e
  subst e
  obtain ⟨cs, _, hK, hcell⟩ := hc (j / 4) x hx
  obtain rfl := k26_open hK
  have h1 := evs_get l (j / 4) x hx
  have h2 : (evE x)[j % 4]? = some u := by
    rw [← h1, List.getElem?_take, if_pos (by omega), List.getElem?_drop, show j / 4 * 4 + j % 4 = j by omega]
    exact hj
  have h3 := hcell (j % 4) u h2
  rw [show k26.sz = 4 from rfl] at h3
  rw [show j / 4 * 4 + j % 4 = j by omega] at h3
  exact h3
theorem infoEv : (Tryd.prog.info? 26).map (fun i => (i.zero, i.size, i.bytes)) = some (some (.agg #[.int .i64 0, .int .i64 0, .string ⟨#[]⟩, .string ⟨#[]⟩]), 4, 48) := by kernel_rfl
theorem eql_nil (w : World) (t e : TypeId) (a : Option Addr) (l c : Nat) (h : Tryd.prog.underlying t = some (.slice e)) : (binOp .eql t (.slice a l c) (.slice none 0 0)).run Tryd.prog w = .ok (.bool a.isNone) w := by
  simp only [binOp]
  simp [run_equal_slice_nil w t e a l c h]
set_option maxHeartbeats 1000000 in
set_option maxRecDepth 100000 in
theorem clone_any (A0 : Option Addr) (c0 : Nat) (l : List Evt) (w : World) (hr : Kd.C k26 w A0 l.length l) (hm : l.length ≤ 100) :
    Calls Tryd.prog 27 #[.slice A0 l.length c0] w fun e w' => ∃ v, e = .returned v ∧ w'.ownsRow w.heap.size 26 4 v l.length (l.flatMap evE) ∧ Below w.heap.size w w' := by
  have hB := Below.refl w.heap.size w
  cases A0 with
  | none =>
    have hl : l.length = 0 := by
      rcases Nat.eq_zero_or_pos l.length with h | h
      · exact h
      · obtain ⟨ad, e, _⟩ := hr.2.2 h
        cases e
    obtain rfl := List.eq_nil_of_length_eq_zero hl
    clear hr hl
    have hnil : ∀ W, (binOp .eql 22 (.slice none 0 c0) (.slice none 0 0)).run Tryd.prog W = .ok (.bool true) W := fun W => eql_nil W _ _ _ _ _ Tryd.underlying22
    go_enter Tryd.func27, Tryd.ntmps27
    go_wp2
    go_ret
    exact ⟨_, rfl, World.ownsRow_nil _ _ _ _, hB⟩
  | some ad =>
    obtain ⟨i0, hi0, hz0, hsz0, hby0⟩ := info_parts infoEv
    have hcs := Lib.hid (fun o => evs_cells (Kd.C_below hr (hB.alloc (Nat.le_refl _) o)))
    have hown : (w.alloc (.cells #[] 26)).ownsRow w.heap.size 26 4 (.slice (some ⟨w.heap.size, 0, none⟩) 0 0) 0 [] := ⟨rfl, .inr ⟨w.heap.size, 0, #[], rfl, Nat.le_refl _, World.alloc_heap_new _ _, Nat.le_refl _, Nat.zero_le _, rfl, rfl⟩⟩
    have HO := Lib.hid hown
    have hB1 := hB.alloc (Nat.le_refl _) (.cells #[] 26)
    have HB := Lib.hid hB1
    clear hown hB hB1 hr
    have hnil : ∀ W, (binOp .eql 22 (.slice (some ad) l.length c0) (.slice none 0 0)).run Tryd.prog W = .ok (.bool false) W := fun W => eql_nil W _ _ _ _ _ Tryd.underlying22
    go_enter Tryd.func27, Tryd.ntmps27
    go_wp2_with (at_builtin; refine wpList_append_own _ rfl _ _ 22 rfl w.heap.size 26 i0 (.agg #[.int .i64 0, .int .i64 0, .string ⟨#[]⟩, .string ⟨#[]⟩]) 4 48 Tryd.underlying22 hi0 hz0 hsz0 hby0 rfl (by decide) _ _ _ rfl HO.out ad l.length c0 (l.flatMap evE) rfl (evs_len l) (hcs.out _) (by intro u hu; obtain ⟨x, _, hx⟩ := List.mem_flatMap.1 hu; simp [evE] at hx; rcases hx with rfl | rfl | rfl | rfl <;> rfl) (by unfold maxLen; omega) (by omega) (by simp) ?_; intro v' w1 hown' hgrow _; have HX := Lib.hid (And.intro hown' hgrow); clear hown' hgrow)
    go_ret
    obtain ⟨h1, h2⟩ := HX.out
    rw [Nat.zero_add, List.nil_append] at h1
    exact ⟨_, rfl, h1, HB.out.grown h2 (by simp) (fun k e => (HO.out.lt k e).1)⟩

/-! #### the names' rows -/
def keysB (h : List Evt) : List ByteArray := h.map (fun x => x.f2)
def valsB (h : List Evt) : List ByteArray := h.map (fun x => x.f3)
def shapeE (h : List Evt) (x : Evt) : Evt := ⟨x.f0, x.f1, nameR ⟨#[107]⟩ (keysB h) x.f2, nameR ⟨#[118]⟩ (valsB h) x.f3⟩
def shapeB (h : List Evt) : List Evt := h.map (shapeE h)
def mixB (h : List Evt) (k : Nat) : List Evt := (shapeB h).take k ++ h.drop k
theorem shapeB_length (h : List Evt) : (shapeB h).length = h.length := by simp [shapeB]
theorem mixB_zero (h : List Evt) : mixB h 0 = h := by simp [mixB]
theorem mixB_all (h : List Evt) : mixB h h.length = shapeB h := by
  unfold mixB
  rw [List.take_of_length_le (by rw [shapeB_length]; exact Nat.le_refl _), List.drop_length, List.append_nil]
theorem mixB_get {h : List Evt} {k : Nat} {x : Evt} (hx : h[k]? = some x) : (mixB h k)[k]? = some x := by
  have hk := (List.getElem?_eq_some_iff.1 hx).1
  have hl : ((shapeB h).take k).length = k := by rw [List.length_take, shapeB_length]; omega
  unfold mixB
  rw [List.getElem?_append_right (by omega), hl, Nat.sub_self, List.getElem?_drop, Nat.add_zero]
  exact hx
theorem mixB_set {h : List Evt} {k : Nat} {x : Evt} (hx : h[k]? = some x) : (mixB h k).set k (shapeE h x) = mixB h (k + 1) := by
  have hk := (List.getElem?_eq_some_iff.1 hx).1
  have hl : ((shapeB h).take k).length = k := by rw [List.length_take, shapeB_length]; omega
  have hs : (shapeB h)[k]? = some (shapeE h x) := by unfold shapeB; rw [List.getElem?_map, hx]; rfl
  unfold mixB
  have hd : (h.drop k).set 0 (shapeE h x) = shapeE h x :: h.drop (k + 1) := by rw [List.drop_eq_getElem_cons hk, List.set_cons_zero]
  rw [List.set_append_right _ _ (by omega), hl, Nat.sub_self, List.take_add_one, hs, hd]
  simp
theorem nameR_take {letter : ByteArray} {ks : List ByteArray} {k : Nat} {s : ByteArray} (h : ks[k]? = some s) : nameR letter (ks.take k ++ [s]) s = nameR letter ks s := by
  have h1 : ks.take k ++ [s] = ks.take (k + 1) := by rw [List.take_add_one, h]; rfl
  have h2 := SM.firstOf_append (s := s) (ks.drop (k + 1)) (ks := ks.take k ++ [s]) (by simp)
  rw [h1, List.take_append_drop] at h2
  unfold nameR
  rw [h1, h2]
theorem evs_set {f : Evt → Evt} {i : Nat} {a : Value} (hf : ∀ x, (evE x).set i a = evE (f x)) (hi : i < 4) (xs : List Evt) : ∀ j x, xs[j]? = some x → (xs.flatMap evE).set (j * 4 + i) a = (xs.set j (f x)).flatMap evE := by
  induction xs with
  | nil => intro j x h; simp at h
  | cons y xs ih =>
    intro j x h
    rw [List.flatMap_cons]
    cases j with
    | zero =>
      obtain rfl : y = x := by simpa using h
      rw [Nat.zero_mul, Nat.zero_add, List.set_append_left _ _ (by rw [evE_len]; exact hi), hf, List.set_cons_zero, List.flatMap_cons]
    | succ j =>
      rw [List.set_append_right _ _ (by rw [evE_len]; omega), evE_len, show (j + 1) * 4 + i - 4 = j * 4 + i by omega, ih j x (by simpa using h), List.set_cons_succ, List.flatMap_cons]
theorem evs_set2 {xs : List Evt} {j : Nat} {x : Evt} (h : xs[j]? = some x) (a : ByteArray) : (xs.flatMap evE).set (j * 4 + 2) (.string a) = (xs.set j ⟨x.f0, x.f1, a, x.f3⟩).flatMap evE :=
  evs_set (f := fun x => ⟨x.f0, x.f1, a, x.f3⟩) (fun _ => rfl) (by omega) xs j x h
theorem evs_set3 {xs : List Evt} {j : Nat} {x : Evt} (h : xs[j]? = some x) (a : ByteArray) : (xs.flatMap evE).set (j * 4 + 3) (.string a) = (xs.set j ⟨x.f0, x.f1, x.f2, a⟩).flatMap evE :=
  evs_set (f := fun x => ⟨x.f0, x.f1, x.f2, a⟩) (fun _ => rfl) (by omega) xs j x h
theorem evs_at {xs : List Evt} {j i : Nat} {x : Evt} {u : Value} (h : xs[j]? = some x) (hi : (evE x)[i]? = some u) : (xs.flatMap evE)[j * 4 + i]? = some u := by
  have h1 := evs_get xs j x h
  have h2 := (List.getElem?_eq_some_iff.1 hi).1
  rw [evE_len] at h2
  rw [← h1, List.getElem?_take, if_pos h2, List.getElem?_drop] at hi
  exact hi
theorem mixB_length {h : List Evt} {k : Nat} (hk : k ≤ h.length) : (mixB h k).length = h.length := by
  unfold mixB
  rw [List.length_append, List.length_take, List.length_drop, shapeB_length]; omega
/-- A map of names, and what it knows. -/
def MapAt (w : World) (b k : Nat) (letter : ByteArray) (ks : List ByteArray) : Prop := ∃ D : DataW Unit, w.ownsMap Tryd.prog 9 (plainElem Tryd.prog 9) b k D ∧ Knows letter ks D
theorem MapAt.below {w w' : World} {b k B : Nat} {letter : ByteArray} {ks : List ByteArray} (h : MapAt w b k letter ks) (hb : Below B w w') (hlt : b < B) : MapAt w' b k letter ks := by
  obtain ⟨D, ⟨es, clock, h1, h2⟩, hK⟩ := h
  exact ⟨D, ⟨es, clock, (hb.block b hlt).trans h1, h2⟩, hK⟩
theorem MapAt.kept {w w' : World} {b k : Nat} {row : Option Nat} {letter : ByteArray} {ks : List ByteArray} (h : MapAt w b k letter ks) (hg : w.grownBy w' row) (hne : some b ≠ row) : MapAt w' b k letter ks := by
  obtain ⟨D, h1, hK⟩ := h
  exact ⟨D, h1.kept hg hne, hK⟩
theorem MapAt.alloc {w : World} {b k : Nat} {letter : ByteArray} {ks : List ByteArray} (h : MapAt w b k letter ks) (o : Obj) : MapAt (w.alloc o) b k letter ks := h.kept (World.grownBy_alloc w o none) (by simp)
theorem rd_get {l : List Evt} {k : Nat} (hk : k < l.length) : l[k]? = some (rd_T26 l (k : Int)) := by
  unfold rd_T26
  rw [Int.toNat_natCast, List.getD_eq_getElem?_getD, List.getElem?_eq_getElem hk]
  rfl
theorem keys_next {l : List Evt} {k : Nat} {x : Evt} (hx : l[k]? = some x) : (keysB l).take k ++ [x.f2] = (keysB l).take (k + 1) := by
  rw [List.take_add_one]
  unfold keysB
  rw [List.getElem?_map, hx]
  rfl
theorem vals_next {l : List Evt} {k : Nat} {x : Evt} (hx : l[k]? = some x) : (valsB l).take k ++ [x.f3] = (valsB l).take (k + 1) := by
  rw [List.take_add_one]
  unfold valsB
  rw [List.getElem?_map, hx]
  rfl
set_option maxHeartbeats 4000000 in
set_option maxRecDepth 100000 in
theorem shape_any (A0 : Option Addr) (c0 : Nat) (l : List Evt) (w : World) (hr : Kd.C k26 w A0 l.length l) (hm : l.length ≤ 99) (hs : ∀ x ∈ l, x.f2.size ≤ maxLen ∧ x.f3.size ≤ maxLen) :
    Calls Tryd.prog 11 #[.slice A0 l.length c0] w fun e w' => ∃ v, e = .returned v ∧ w'.ownsRow (w.heap.size + 2) 26 4 v l.length ((shapeB l).flatMap evE) ∧ Below w.heap.size w w' := by
  have hB0 := ((Below.refl w.heap.size w).alloc (Nat.le_refl _) (.map #[] 0)).alloc (by simp) (.map #[] 0)
  have hM1 := (World.ownsMap_made (H := Unit) w Tryd.prog 9 (plainElem Tryd.prog 9)).alloc (.map #[] 0)
  have hM2 := World.ownsMap_made (H := Unit) (w.alloc (.map #[] 0)) Tryd.prog 9 (plainElem Tryd.prog 9)
  have hsz : ((w.alloc (.map #[] 0)).alloc (.map #[] 0)).heap.size = w.heap.size + 2 := by simp
  have hCl := Lib.hid (clone_any A0 c0 l ((w.alloc (.map #[] 0)).alloc (.map #[] 0)) (Kd.C_below hr hB0) (by omega))
  rw [World.size_alloc] at hM2
  have HM := Lib.hid (And.intro hM1 (And.intro hM2 (And.intro hB0 hsz)))
  have HR := Lib.hid hr; have HS := Lib.hid hs
  clear hM1 hM2 hB0 hsz hr hs
  have hmm := @run_makeMap Tryd.prog
  go_enter Tryd.func11, Tryd.ntmps11
  go_wp2_with (go_at_call 27; refine Pause'.out ?_)
  constructor
  refine hCl.out.mono ?_
  rintro e u ⟨v, rfl, h1, h2⟩
  obtain ⟨hM1, hM2, hB0, hsz⟩ := HM.out
  rw [hsz] at h1 h2
  have hst := Lib.hid h1
  have hk1 : Hid (MapAt u w.heap.size 0 ⟨#[107]⟩ []) := Lib.hid (MapAt.below ⟨_, hM1, knows_nil _⟩ h2 (by omega))
  have hv1 : Hid (MapAt u (w.heap.size + 1) 0 ⟨#[118]⟩ []) := Lib.hid (MapAt.below ⟨_, hM2, knows_nil _⟩ h2 (by omega))
  have hbw := hB0.trans (h2.mono (by omega))
  obtain ⟨vA, vc, hv⟩ : ∃ A c, v = .slice A l.length c := by
    rcases h1.2 with ⟨rfl, h0⟩ | ⟨g, cap, cur, rfl, _⟩
    · exact ⟨none, 0, by rw [h0]⟩
    · exact ⟨_, _, rfl⟩
  subst hv
  clear hM1 hM2 hB0 hsz h1 h2 HM hCl
  go_wp2
  go_loopw [15] (fun y wr => ∃ k : Nat, y = .int .i64 (k : Int) ∧ k ≤ l.length ∧ Hid (wr.ownsRow (w.heap.size + 2) 26 4 (.slice vA l.length vc) l.length ((mixB l k).flatMap evE)) ∧ Hid (MapAt wr w.heap.size k ⟨#[107]⟩ ((keysB l).take k)) ∧ Hid (MapAt wr (w.heap.size + 1) k ⟨#[118]⟩ ((valsB l).take k)) ∧ Below w.heap.size w wr) (fun y _ => l.length + 1 - (intOf y).toNat)
  case atStart => exact ⟨0, rfl, by omega, by rw [mixB_zero]; exact hst, hk1, hv1, hbw⟩
  case round =>
    clear hst hk1 hv1 hbw
    obtain ⟨k, rfl, hk, HO, HK, HV, hB⟩ := hrel
    by_cases hlt : k < l.length
    · have hlt1 : decide ((k : Int) < (l.length : Int)) = true := by simp; omega
      have hlt2 : decide (k < l.length) = true := by simp; omega
      obtain ⟨ad, hA, hx0, hx1, hx2, hx3⟩ := at_T26 (Kd.C_below HR.out hB) (k : Int) (by omega) (by omega)
      have hlz : ((l.length : Int) : Int) = l.length := rfl
      rw [Int.toNat_natCast] at hx0 hx1 hx2 hx3
      have hX := rd_get hlt
      obtain ⟨x, hxe⟩ : ∃ x, x = rd_T26 l (k : Int) := ⟨_, rfl⟩
      rw [← hxe] at hx0 hx1 hx2 hx3 hX
      obtain ⟨hsk, hsv⟩ := HS.out x (List.mem_of_getElem? hX)
      obtain ⟨g, rfl⟩ : ∃ g, vA = some ⟨g, 0, none⟩ := by
        rcases HO.out.2 with ⟨_, h0⟩ | ⟨gs, _, _, e, _⟩
        · omega
        · injection e with e1
          exact ⟨gs, e1⟩
      have hg2 := (HO.out.lt g rfl).1
      have hbz := hB.size
      obtain ⟨o, ho⟩ : ∃ o, o = Obj.cells #[.int .i64 x.f0, .int .i64 x.f1, .string x.f2, .string x.f3] 26 := ⟨_, rfl⟩
      have hk0 := MapAt.alloc HK.out o
      have hlk : ((keysB l).take k).length = k := by rw [List.length_take]; unfold keysB; rw [List.length_map]; omega
      have hlv : ((valsB l).take k).length = k := by rw [List.length_take]; unfold valsB; rw [List.length_map]; omega
      obtain ⟨Dk, hok, hKk⟩ := hk0
      have HN := name_any ⟨#[107]⟩ ((keysB l).take k) x.f2 w.heap.size k Dk (wr.alloc o) hok hKk (by omega) (by omega) hsk rfl
      rw [hlk] at HN
      have HNN := Lib.hid HN
      have HC := Lib.hid (And.intro HO (And.intro HV (And.intro hB (And.intro hX (And.intro hlk hlv)))))
      have HSZ := Lib.hid (And.intro hsk hsv)
      rw [ho] at HNN
      subst hA
      clear hok hKk HN hX hsk hsv hlk hlv HO HV hB HK hxe hg2
      go_wp2_with (go_at_call 25; refine Pause'.out ?_)
      constructor
      refine HNN.out.mono ?_
      rintro e u1 ⟨rfl, hk1, hg1⟩
      obtain ⟨HO, HV, hB, hX, hlk, hlv⟩ := HC.out
      have hg2 := (HO.out.lt g rfl).1
      have hgl := (HO.out.lt g rfl).2
      rw [nameR_take (by unfold keysB; rw [List.getElem?_map, hX]; rfl)]
      rw [keys_next hX] at hk1
      obtain ⟨a, ha⟩ : ∃ a, a = nameR ⟨#[107]⟩ (keysB l) x.f2 := ⟨_, rfl⟩
      rw [← ha]
      rw [← ho] at hg1
      have hB1 : Below w.heap.size w u1 := (hB.alloc hbz o).grown hg1 (by simp; omega) (fun k e => by injection e with e; omega)
      have HO1 := (HO.out.alloc o).kept hg1 (.inr (by simp [Value.ownBlock]; omega))
      have HV1 := (HV.out.alloc o).kept hg1 (by simp)
      have hMX := mixB_get hX
      have hc2 : u1.cell? ⟨g, k * 4 + 2, none⟩ = some (.string x.f2) := by rw [HO1.cellAt (k * 4 + 2) (by omega)]; exact evs_at hMX rfl
      have hf2 := HO1.frozenAt (k * 4 + 2)
      obtain ⟨HO2, hg2'⟩ := HO1.stored (k * 4 + 2) (.string a)
      rw [evs_set2 hMX] at HO2
      have hMX2 : ((mixB l k).set k ⟨x.f0, x.f1, a, x.f3⟩)[k]? = some ⟨x.f0, x.f1, a, x.f3⟩ := by
        rw [List.getElem?_set_self (by rw [mixB_length hk]; exact hlt)]
      have HK2 := MapAt.kept hk1 hg2' (by simp; omega)
      have HV2 := MapAt.kept HV1 hg2' (by simp; omega)
      have hB2 := hB1.grown hg2' hB1.size (fun k e => by injection e with e; omega)
      have hb3 : (wr.alloc o).cell? ⟨wr.heap.size, 3, none⟩ = some (.string x.f3) := by rw [ho]; exact (RowIs.new wr 26 [.int .i64 x.f0, .int .i64 x.f1, .string x.f2, .string x.f3]).cell (i := 3) rfl
      have hb3' := (hg2'.cell (hg1.cell hb3 (by simp; omega)) (by simp; omega))
      obtain ⟨Dv, hov, hKv⟩ := HV2
      have HN := name_any ⟨#[118]⟩ ((valsB l).take k) x.f3 (w.heap.size + 1) k Dv (u1.setCell ⟨g, k * 4 + 2, none⟩ (.string a)) hov hKv (by omega) (by omega) HSZ.out.2 rfl
      rw [hlv] at HN
      have HNN2 := Lib.hid HN
      have HD := Lib.hid (And.intro HO2 (And.intro HK2 (And.intro hB2 (And.intro hX (And.intro hMX2 ha)))))
      clear HN hov hKv hb3 hB2 HK2 hMX2 HO2 hMX HV1 HO1 hB1 hk1 HO HV hB hX hlk hlv ha HNN HC hg1 hg2' ho hx0 hx1 hx2 hx3
      go_wp2_with (go_at_call 25; refine Pause'.out ?_)
      constructor
      refine HNN2.out.mono ?_
      rintro e u3 ⟨rfl, hk3, hg3⟩
      obtain ⟨HO2, HK2, hB2, hX, hMX2, ha⟩ := HD.out
      rw [nameR_take (by unfold valsB; rw [List.getElem?_map, hX]; rfl)]
      rw [vals_next hX] at hk3
      obtain ⟨b, hb⟩ : ∃ b, b = nameR ⟨#[118]⟩ (valsB l) x.f3 := ⟨_, rfl⟩
      rw [← hb]
      have hB3 := hB2.grown hg3 hB2.size (fun k e => by injection e with e; omega)
      have HO3 := HO2.kept hg3 (.inr (by simp [Value.ownBlock]; omega))
      have HK3 := HK2.kept hg3 (by simp)
      have hc3 : u3.cell? ⟨g, k * 4 + 3, none⟩ = some (.string x.f3) := by rw [HO3.cellAt (k * 4 + 3) (by omega)]; exact evs_at hMX2 rfl
      have hf3 := HO3.frozenAt (k * 4 + 3)
      obtain ⟨HO4, hg4⟩ := HO3.stored (k * 4 + 3) (.string b)
      have hsh : shapeE l x = ⟨x.f0, x.f1, a, b⟩ := by rw [ha, hb]; rfl
      rw [evs_set3 hMX2, List.set_set, ← hsh, mixB_set hX] at HO4
      have HE := Lib.hid (And.intro HO4 (And.intro (HK3.kept hg4 (by simp; omega)) (And.intro (MapAt.kept hk3 hg4 (by simp; omega)) (hB3.grown hg4 hB3.size (fun k e => by injection e with e; omega)))))
      clear HO4 hg4 HO3 HK3 hB3 hk3 hg3 HO2 HK2 hB2 hX hMX2 ha hb hsh HD HNN2 hc2 hf2 hb3'
      go_wp2
      go_roundw
      case rel =>
        obtain ⟨HO4, HK4, HV4, hB4⟩ := HE.out
        exact ⟨k + 1, by go_num, by omega, Lib.hid HO4, Lib.hid HK4, Lib.hid HV4, hB4⟩
      case measure => simp [intOf]; omega
    · obtain rfl : k = l.length := by omega
      have hlt1 : decide ((l.length : Int) < (l.length : Int)) = false := by simp
      have hlt2 : decide (l.length < l.length) = false := by simp
      have HF := Lib.hid (And.intro HO hB)
      clear HO hB HK HV
      go_wp2
      obtain ⟨HO, hB⟩ := HF.out
      refine bodyPost_ret (v := .slice vA l.length vc) (by simp [results, Tryd.results11, go_sem]) rfl ⟨_, rfl, by rw [← mixB_all]; exact HO.out, hB⟩
/-- redact.Shape, as the print takes it. -/
def redact_Shape.f (h : List Evt) : Option (List Evt) :=
  if h.length ≤ 99 ∧ ∀ x ∈ h, x.f2.size ≤ maxLen ∧ x.f3.size ≤ maxLen then some (shapeB h) else none
theorem redact_Shape.calls (A0 : Option Addr) (c0 : Nat) (l0 : List Evt) (r : List Evt) (w : World) (hr0 : Kd.C k26 w A0 l0.length l0) (hc0 : l0.length ≤ c0) (h : redact_Shape.f l0 = some r) :
    Calls Tryd.prog 11 #[.slice A0 l0.length c0] w fun e w' => ∃ v0_ : Value, e = .returned v0_ ∧ Kd.R k26 26 w' w.heap.size (fun _ => True) v0_ r ∧ Below w.heap.size w w' := by
  unfold redact_Shape.f at h
  by_cases hc : l0.length ≤ 99 ∧ ∀ x ∈ l0, x.f2.size ≤ maxLen ∧ x.f3.size ≤ maxLen
  · rw [if_pos hc] at h
    obtain rfl := Option.some.inj h
    refine (shape_any A0 c0 l0 w hr0 hc.1 hc.2).mono ?_
    rintro e w' ⟨v, rfl, ho, hb⟩
    refine ⟨v, rfl, evs_R ?_, hb⟩
    rw [shapeB_length]
    rcases ho with ⟨hl, hn | ⟨g, cap, cur, e, hb2, rest⟩⟩
    · exact ⟨hl, .inl hn⟩
    · exact ⟨hl, .inr ⟨g, cap, cur, e, by omega, rest⟩⟩
  · rw [if_neg hc] at h
    cases h
end Go.Proofs.YtbckobokiioeaaaDoor
