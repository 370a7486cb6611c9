/- THE LAW RedactNames, IN PLAIN LEAN: its printed function says true. -/
import Derived.Test.YtbckobokiioeaaaDoorRedL
import Derived.Test.YtbckobokiioeaaaDoorRLRedactNames
set_option linter.unusedVariables false
set_option linter.unusedSimpArgs false
namespace Go.Proofs.YtbckobokiioeaaaDoor
open Go.RowKit Go.Proofs.YtbckobokiioeaaaDoor.Q Go.Proofs.YtbckobokiioeaaaDoor.R Go.Proofs.YtbckobokiioeaaaDoorW.PrintWords

theorem u8_inj {a b : Nat} (ha : a < 256) (hb : b < 256) (h : UInt8.ofNat a = UInt8.ofNat b) : a = b := by
  have := congrArg UInt8.toNat h
  simpa [Nat.mod_eq_of_lt ha, Nat.mod_eq_of_lt hb] using this
theorem figB_inj {i j : Nat} (hi : i < 100) (hj : j < 100) (h : figB i = figB j) : i = j := by
  have h1 : Lib.decDigits i = Lib.decDigits j := by
    have := congrArg (fun b : ByteArray => b.data.toList) h
    simpa [figB] using this
  by_cases a : i < 10
  · by_cases b : j < 10
    · rw [Lib.decDigits_one a, Lib.decDigits_one b] at h1
      have := u8_inj (by omega) (by omega) (List.cons.inj h1).1
      omega
    · rw [Lib.decDigits_one a, Lib.decDigits_two b hj] at h1
      cases (List.cons.inj h1).2
  · by_cases b : j < 10
    · rw [Lib.decDigits_two a hi, Lib.decDigits_one b] at h1
      cases (List.cons.inj h1).2
    · rw [Lib.decDigits_two a hi, Lib.decDigits_two b hj] at h1
      have h2 := u8_inj (by omega) (by omega) (List.cons.inj h1).1
      have h3 := u8_inj (by omega) (by omega) (List.cons.inj (List.cons.inj h1).2).1
      omega
theorem app_left {a b c : ByteArray} (h : a ++ b = a ++ c) : b = c := by
  have := congrArg (fun x : ByteArray => x.data.toList) h
  simp only [ByteArray.data_append, Array.toList_append] at this
  exact bytes_eq (List.append_cancel_left this)
theorem app_right {a b c : ByteArray} (h : b ++ a = c ++ a) : b = c := by
  have := congrArg (fun x : ByteArray => x.data.toList) h
  simp only [ByteArray.data_append, Array.toList_append] at this
  exact bytes_eq (List.append_cancel_right this)
/-- Other names: the same shape. -/
theorem nameR_map {letter : ByteArray} {f : ByteArray → ByteArray} {ks : List ByteArray} {s : ByteArray} (h0 : f s = ⟨#[]⟩ ↔ s = ⟨#[]⟩) (hi : ∀ t ∈ ks, f t = f s → t = s) : nameR letter (ks.map f) (f s) = nameR letter ks s := by
  unfold nameR
  by_cases e : s = ⟨#[]⟩
  · rw [if_pos (h0.2 e), if_pos e]
  · rw [if_neg (fun x => e (h0.1 x)), if_neg e, SM.firstOf_map f s ks hi]
theorem nmB_ne (b : UInt8) (i : Nat) : nmB ⟨#[b]⟩ i ≠ ⟨#[]⟩ := fun h => by
  have := congrArg ByteArray.size h
  unfold nmB at this
  rw [ByteArray.size_append] at this
  have h1 : (⟨#[b]⟩ : ByteArray).size = 1 := rfl
  have h0 : (⟨#[]⟩ : ByteArray).size = 0 := rfl
  omega
theorem nameR_nil {b : UInt8} {ks : List ByteArray} {s : ByteArray} : nameR ⟨#[b]⟩ ks s = ⟨#[]⟩ ↔ s = ⟨#[]⟩ := by
  unfold nameR
  by_cases e : s = ⟨#[]⟩
  · rw [if_pos e]; exact ⟨fun _ => e, fun _ => rfl⟩
  · rw [if_neg e]; exact ⟨fun h => absurd h (nmB_ne b _), fun h => absurd h e⟩
theorem nameR_inj {b : UInt8} {ks : List ByteArray} {s t : ByteArray} (hl : ks.length ≤ 100) (hs : s ∈ ks) (ht : t ∈ ks) (h : nameR ⟨#[b]⟩ ks t = nameR ⟨#[b]⟩ ks s) : t = s := by
  by_cases e : s = ⟨#[]⟩
  · rw [e]
    exact nameR_nil.1 (h.trans (nameR_nil.2 e))
  · have e2 : t ≠ ⟨#[]⟩ := fun x => e (nameR_nil.1 (h.symm.trans (nameR_nil.2 x)))
    unfold nameR nmB at h
    rw [if_neg e, if_neg e2] at h
    have h1 := SM.firstOf_lt hs
    have h2 := SM.firstOf_lt ht
    exact SM.firstOf_inj ht hs (figB_inj (by omega) (by omega) (app_left h))
theorem keysB_shape (h : List Evt) : keysB (shapeB h) = (keysB h).map (nameR ⟨#[107]⟩ (keysB h)) := by simp [keysB, shapeB, shapeE]
theorem valsB_shape (h : List Evt) : valsB (shapeB h) = (valsB h).map (nameR ⟨#[118]⟩ (valsB h)) := by simp [valsB, shapeB, shapeE]
theorem keysB_mem {h : List Evt} {x : Evt} (hx : x ∈ h) : x.f2 ∈ keysB h := List.mem_map_of_mem hx
theorem valsB_mem {h : List Evt} {x : Evt} (hx : x ∈ h) : x.f3 ∈ valsB h := List.mem_map_of_mem hx
theorem shapeB_shape (h : List Evt) (hl : h.length ≤ 100) : shapeB (shapeB h) = shapeB h := by
  have e : shapeB (shapeB h) = h.map (fun x => shapeE (shapeB h) (shapeE h x)) := by
    show (h.map (shapeE h)).map _ = _
    rw [List.map_map]
    rfl
  rw [e]
  refine List.map_congr_left fun x hx => ?_
  have lk : (keysB h).length ≤ 100 := by unfold keysB; rw [List.length_map]; exact hl
  have lv : (valsB h).length ≤ 100 := by unfold valsB; rw [List.length_map]; exact hl
  have hk := nameR_map (letter := ⟨#[107]⟩) (f := nameR ⟨#[107]⟩ (keysB h)) (ks := keysB h) (s := x.f2) nameR_nil (fun t ht => nameR_inj lk (keysB_mem hx) ht)
  have hv := nameR_map (letter := ⟨#[118]⟩) (f := nameR ⟨#[118]⟩ (valsB h)) (ks := valsB h) (s := x.f3) nameR_nil (fun t ht => nameR_inj lv (valsB_mem hx) ht)
  rw [← keysB_shape] at hk
  rw [← valsB_shape] at hv
  show (⟨x.f0, x.f1, nameR ⟨#[107]⟩ (keysB (shapeB h)) (nameR ⟨#[107]⟩ (keysB h) x.f2), nameR ⟨#[118]⟩ (valsB (shapeB h)) (nameR ⟨#[118]⟩ (valsB h) x.f3)⟩ : Evt) = ⟨x.f0, x.f1, nameR ⟨#[107]⟩ (keysB h) x.f2, nameR ⟨#[118]⟩ (valsB h) x.f3⟩
  rw [hk, hv]
def renB (f m s : ByteArray) : ByteArray := if s = ⟨#[]⟩ then s else (f ++ s) ++ m
theorem renB_nil {f m s : ByteArray} : renB f m s = ⟨#[]⟩ ↔ s = ⟨#[]⟩ := by
  unfold renB
  by_cases e : s = ⟨#[]⟩
  · rw [if_pos e]
  · rw [if_neg e]
    refine ⟨fun h => ?_, fun h => absurd h e⟩
    have := congrArg ByteArray.size h
    rw [ByteArray.size_append, ByteArray.size_append] at this
    have h0 : (⟨#[]⟩ : ByteArray).size = 0 := rfl
    exact size_nil.1 (by omega)
theorem renB_inj {f m s t : ByteArray} (h : renB f m t = renB f m s) : t = s := by
  by_cases e : s = ⟨#[]⟩
  · rw [e]
    exact renB_nil.1 (h.trans (renB_nil.2 e))
  · have e2 : t ≠ ⟨#[]⟩ := fun x => e (renB_nil.1 (h.symm.trans (renB_nil.2 x)))
    unfold renB at h
    rw [if_neg e, if_neg e2] at h
    exact app_left (app_right h)
def renE (f m : ByteArray) (x : Evt) : Evt := ⟨x.f0, x.f1, renB f m x.f2, renB m f x.f3⟩
theorem shapeB_ren (f m : ByteArray) (h : List Evt) : shapeB (h.map (renE f m)) = shapeB h := by
  have ek : keysB (h.map (renE f m)) = (keysB h).map (renB f m) := by simp [keysB, renE]
  have ev : valsB (h.map (renE f m)) = (valsB h).map (renB m f) := by simp [valsB, renE]
  have e : shapeB (h.map (renE f m)) = h.map (fun x => shapeE (h.map (renE f m)) (renE f m x)) := by
    show (h.map (renE f m)).map _ = _
    rw [List.map_map]
    rfl
  rw [e]
  refine List.map_congr_left fun x hx => ?_
  show (⟨x.f0, x.f1, nameR ⟨#[107]⟩ (keysB (h.map (renE f m))) (renB f m x.f2), nameR ⟨#[118]⟩ (valsB (h.map (renE f m))) (renB m f x.f3)⟩ : Evt) = ⟨x.f0, x.f1, nameR ⟨#[107]⟩ (keysB h) x.f2, nameR ⟨#[118]⟩ (valsB h) x.f3⟩
  rw [ek, ev, nameR_map renB_nil (fun t _ => renB_inj), nameR_map renB_nil (fun t _ => renB_inj)]
theorem nameR_size {b : UInt8} {ks : List ByteArray} {s : ByteArray} (hl : ks.length ≤ 99) : (nameR ⟨#[b]⟩ ks s).size ≤ 200 := by
  unfold nameR
  by_cases e : s = ⟨#[]⟩
  · rw [if_pos e]; decide
  · rw [if_neg e]
    unfold nmB
    rw [ByteArray.size_append]
    have h1 : SM.firstOf s ks < 100 := by
      by_cases hm : s ∈ ks
      · have := SM.firstOf_lt hm; omega
      · rw [SM.firstOf_not hm]; omega
    have := fig_size _ h1
    show 1 + _ ≤ _
    omega
theorem names_l0 (h : List Evt) (f m : ByteArray) (hl : h.length ≤ 60) (hs : SmallE h) (hf : f.size ≤ 140737488351232) (hm : m.size ≤ 140737488351232) : ∀ (d k : Nat), k + d = h.length →
    Ev (fun n => cartouchelaw07_RedactNames.l0 n h f m true ((h.take k).map (renE f m)) (k : Int)) true
  | 0, k, hk => by
    obtain rfl : k = h.length := by omega
    rw [List.take_length]
    have h1 : ∀ x ∈ h.map (renE f m), x.f2.size ≤ maxLen ∧ x.f3.size ≤ maxLen := by
      intro x hx
      obtain ⟨y, hy, rfl⟩ := List.mem_map.1 hx
      have := hs y hy
      have e : ∀ a b s : ByteArray, a.size ≤ 140737488351232 → b.size ≤ 140737488351232 → s.size ≤ 140737488351232 → (renB a b s).size ≤ maxLen := fun a b s ha hb hc => by
        unfold renB maxLen
        split
        · omega
        · rw [ByteArray.size_append, ByteArray.size_append]; omega
      exact ⟨e _ _ _ hf hm this.1, e _ _ _ hm hf this.2⟩
    have h2 : ∀ x ∈ shapeB h, x.f2.size ≤ maxLen ∧ x.f3.size ≤ maxLen := by
      intro x hx
      obtain ⟨y, hy, rfl⟩ := List.mem_map.1 hx
      have a := nameR_size (b := 107) (ks := keysB h) (s := y.f2) (by unfold keysB; rw [List.length_map]; omega)
      have b := nameR_size (b := 118) (ks := valsB h) (s := y.f3) (by unfold valsB; rw [List.length_map]; omega)
      exact ⟨Nat.le_trans a (by decide), Nat.le_trans b (by decide)⟩
    have s1 := same_f (shapeB h) (shapeB (h.map (renE f m))) (by rw [shapeB_length]; omega) (shapeB_ren f m h).symm
    have s2 := same_f (shapeB (shapeB h)) (shapeB h) (by rw [shapeB_length, shapeB_length]; omega) (shapeB_shape h (by omega))
    refine Ev.step (f := fun n => (cartoucheref06_Same.f n (shapeB h) (shapeB (h.map (renE f m)))).bind fun t => if t = true then (cartoucheref06_Same.f n (shapeB (shapeB h)) (shapeB h)).bind fun u => some u else some false) (fun n => ?_) (Ev.bind s1 ?_)
    · simp only [cartouchelaw07_RedactNames.l0]
      rw [if_neg (by omega), shape_f h (by omega) hs.max]
      refine Eq.trans (Option.bind_some _ _) ?_
      rw [shape_f _ (by rw [List.length_map]; omega) h1]
      refine Eq.trans (Option.bind_some _ _) ?_
      simp only [if_true]
      rw [shape_f (shapeB h) (by rw [shapeB_length]; omega) h2]
      rfl
    · simp only [if_true]
      exact Ev.bind s2 (Ev.now _)
  | d + 1, k, hk => by
    have ih := names_l0 h f m hl hs hf hm d (k + 1) (by omega)
    have hx := hs _ (rd_mem h k (by omega))
    have ht : (h.take (k + 1)).map (renE f m) = (h.take k).map (renE f m) ++ [renE f m (rd_T26 h (k : Int))] := by
      rw [List.take_add_one, rd_get (show k < h.length by omega)]
      simp
    have hlen : ((h.take k).map (renE f m)).length = k := by rw [List.length_map, List.length_take]; omega
    rw [ht] at ih
    unfold renE renB at ih
    unfold renE renB at hlen
    unfold renE renB
    refine Ev.step (fun n => ?_) ih
    simp only [cartouchelaw07_RedactNames.l0]
    rw [if_pos (by omega), if_pos (by omega), wrap_id (by omega) (by omega), show (k : Int) + 1 = ((k + 1 : Nat) : Int) by omega]
    generalize rd_T26 h (k : Int) = x at hx ⊢
    have g : (List.map (fun x : Evt => (⟨x.f0, x.f1, if x.f2 = ⟨#[]⟩ then x.f2 else f ++ x.f2 ++ m, if x.f3 = ⟨#[]⟩ then x.f3 else m ++ x.f3 ++ f⟩ : Evt)) (h.take k)).length < 2932031007402 := by rw [hlen]; omega
    by_cases c2 : x.f2 = ⟨#[]⟩
    · rw [if_pos (toList_nil.2 c2)]
      by_cases c3 : x.f3 = ⟨#[]⟩
      · rw [if_pos (toList_nil.2 c3), if_pos g]
        simp only [if_pos c2, if_pos c3]
      · rw [if_neg (fun z => c3 (toList_nil.1 z)), if_pos (by omega), if_pos (by rw [ByteArray.size_append]; omega), if_pos g]
        simp only [if_pos c2, if_neg c3]
    · rw [if_neg (fun z => c2 (toList_nil.1 z)), if_pos (by omega), if_pos (by rw [ByteArray.size_append]; omega)]
      by_cases c3 : x.f3 = ⟨#[]⟩
      · rw [if_pos (toList_nil.2 c3), if_pos g]
        simp only [if_neg c2, if_pos c3]
      · rw [if_neg (fun z => c3 (toList_nil.1 z)), if_pos (by omega), if_pos (by rw [ByteArray.size_append]; omega), if_pos g]
        simp only [if_neg c2, if_neg c3]
theorem RedactNames_pure (h : List Evt) (f m : ByteArray) (hh : h.length * 48 ≤ 140737488351232 ∧ ∀ x ∈ h, (Lit.int .i64 x.f0).wf = true ∧ (Lit.int .i64 x.f1).wf = true ∧ x.f2.size ≤ 140737488351232 ∧ x.f3.size ≤ 140737488351232) (hf : f.size ≤ 140737488351232) (hm : m.size ≤ 140737488351232) : ∃ k, cartouchelaw07_RedactNames.f k h f m = some true := by
  have hs : SmallE h := fun x hx => ⟨(hh.2 x hx).2.2.1, (hh.2 x hx).2.2.2⟩
  refine Ev.rounds (g := fun k => cartouchelaw07_RedactNames.f k h f m) ?_
  unfold cartouchelaw07_RedactNames.f
  simp only [shown_f, few_f, Option.bind_some]
  by_cases hl : h.length ≤ 60
  · simp only [decide_eq_true hl, if_true]
    exact names_l0 h f m hl hs hf hm h.length 0 (by omega)
  · simp only [decide_eq_false hl, Bool.false_eq_true, if_false]
    exact Ev.now _
end Go.Proofs.YtbckobokiioeaaaDoor
