/- Twins of a history, in plain Lean: what the document answers. -/
import Derived.Test.YtbckobokiioeaaaDoorRedTwinsM
set_option linter.unusedVariables false
set_option linter.unusedSimpArgs false
namespace Go.Proofs.YtbckobokiioeaaaDoor
open Go.RowKit Go.Proofs.YtbckobokiioeaaaDoor.Q Go.Proofs.YtbckobokiioeaaaDoor.R Go.Proofs.YtbckobokiioeaaaDoorW.PrintWords

def kIn (x : Evt) : ByteArray := if keyedE x.f0 then (⟨#[5]⟩ : ByteArray) ++ x.f2 else ⟨#[]⟩
def vIn (x : Evt) : ByteArray := if keyedE x.f0 then (if x.f3 = ⟨#[]⟩ then ⟨#[]⟩ else (⟨#[6]⟩ : ByteArray) ++ x.f3) else ⟨#[]⟩
def bothR (a b : ByteArray × ByteArray × Bool) : ByteArray × ByteArray × Bool := if a.2.2 = true then (a.1, a.2.1, true) else (b.1, b.2.1, b.2.2)
def twinsR (seed : ByteArray) (h : List Evt) : ByteArray × ByteArray × Bool :=
  if ∀ x ∈ h, errE seed x = 0 then bothR (twinU seed [] (h.map kIn)) (twinU seed [] (h.map vIn)) else (⟨#[]⟩, ⟨#[]⟩, false)
theorem kIn_size {x : Evt} (h : x.f2.size ≤ 140737488351232) : (kIn x).size ≤ 562949953421248 := by
  unfold kIn
  split
  · rw [ByteArray.size_append, one_size]; omega
  · rw [nil_size]; omega
theorem vIn_size {x : Evt} (h : x.f3.size ≤ 140737488351232) : (vIn x).size ≤ 562949953421248 := by
  unfold vIn
  split
  · split
    · rw [nil_size]; omega
    · rw [ByteArray.size_append, one_size]; omega
  · rw [nil_size]; omega
theorem twins_any (seed : ByteArray) (l : List ByteArray) (hb : l = [] ∨ ¬ badK seed) (hl : l.length ≤ 9223372036854775806) (hs : ∀ s ∈ l, s.size ≤ 562949953421248) : Ev (fun k => cartoucheref07_twins.f k seed l) (twinU seed [] l) := by
  rcases hb with rfl | hb
  · refine Ev.step (f := fun _ => some (⟨#[]⟩, ⟨#[]⟩, false)) (fun n => ?_) (Ev.now _)
    simp only [cartoucheref07_twins.f, cartoucheref07_twins.l0]
    rw [if_neg (by decide)]
  · exact rtwins_f seed l hb hl hs
section
variable (seed : ByteArray) (h : List Evt) (hs : SmallE h) (hl : h.length ≤ 60)
include hs hl
theorem rTwins_l0 : ∀ (d i : Nat), i + d = h.length → (∀ x ∈ h.take i, errE seed x = 0) → Ev (fun n => cartoucheref07_Twins.l0 n seed h ((h.take i).map kIn) ((h.take i).map vIn) (i : Int)) (twinsR seed h)
  | 0, i, hi, he => by
    obtain rfl : i = h.length := by omega
    rw [List.take_length] at he ⊢
    have hb : h = [] ∨ ¬ badK seed := by
      cases h with
      | nil => exact .inl rfl
      | cons x r =>
        refine .inr fun hb => ?_
        have := he x (by simp)
        unfold errE at this
        rw [oneR_no (fun z => z.1 hb)] at this
        cases this
    have hk := twins_any seed (h.map kIn) (hb.imp (fun e => by rw [e]; rfl) id) (by rw [List.length_map]; omega) (fun s hm => by obtain ⟨x, hx, rfl⟩ := List.mem_map.1 hm; exact kIn_size (hs x hx).1)
    have hv := twins_any seed (h.map vIn) (hb.imp (fun e => by rw [e]; rfl) id) (by rw [List.length_map]; omega) (fun s hm => by obtain ⟨x, hx, rfl⟩ := List.mem_map.1 hm; exact vIn_size (hs x hx).2)
    unfold twinsR
    rw [if_pos he]
    generalize twinU seed [] (h.map kIn) = a at *
    generalize twinU seed [] (h.map vIn) = b at *
    refine Ev.step (fun n => ?_) (Ev.bind (f := fun n bt => if bt.2.2 = true then some (bt.1, bt.2.1, true) else (cartoucheref07_twins.f n seed (h.map vIn)).bind fun bt2 => some (bt2.1, bt2.2.1, bt2.2.2)) hk ?_)
    · simp only [cartoucheref07_Twins.l0]
      rw [if_neg (by omega)]
    · unfold bothR
      by_cases c : a.2.2 = true
      · simp only [if_pos c]
        exact Ev.now _
      · simp only [if_neg c]
        exact Ev.bind hv (Ev.now _)
  | d + 1, i, hi, he => by
    have hx := hs _ (rd_mem h i (by omega))
    have hget := rd_get (show i < h.length by omega)
    have hone := rone_f seed (rd_T26 h (i : Int)).f0 (rd_T26 h (i : Int)).f1 _ _ hx.1 hx.2
    have hmem := rd_mem h i (by omega)
    have ht : h.take (i + 1) = h.take i ++ [rd_T26 h (i : Int)] := by rw [List.take_add_one, hget]; rfl
    have lk : ((h.take i).map kIn).length ≤ 60 := by rw [List.length_map, List.length_take]; omega
    have lv : ((h.take i).map vIn).length ≤ 60 := by rw [List.length_map, List.length_take]; omega
    by_cases hx0 : errE seed (rd_T26 h (i : Int)) = 0
    · have ih := rTwins_l0 d (i + 1) (by omega) (fun y hy => by
        rw [ht] at hy
        rcases List.mem_append.1 hy with hy | hy
        · exact he y hy
        · rw [List.mem_singleton.1 hy]; exact hx0)
      rw [ht, List.map_append, List.map_append, List.map_singleton, List.map_singleton] at ih
      generalize (h.take i).map kIn = K at *
      generalize (h.take i).map vIn = V at *
      obtain ⟨x, hxe⟩ : ∃ x, x = rd_T26 h (i : Int) := ⟨_, rfl⟩
      have hyes : keyedE x.f0 → Ev (fun n => cartoucheref07_Twins.j1 n seed h K V (i : Int) ⟨#[]⟩ ⟨#[]⟩ true) (twinsR seed h) := fun hk => by
        rw [← hxe] at ih hx
        refine Ev.step (fun n => ?_) ih
        simp only [cartoucheref07_Twins.j1, if_true]
        rw [if_pos (by omega), if_pos (by omega), ← hxe, if_pos (by omega)]
        unfold kIn vIn
        rw [if_pos hk, if_pos hk]
        by_cases c : x.f3 = ⟨#[]⟩
        · rw [if_pos (toList_nil.2 c), if_pos (by omega), if_pos (by omega), if_pos c, wrap_id (by omega) (by omega)]
          rfl
        · rw [if_neg (fun z => c (toList_nil.1 z)), if_pos (by omega), if_pos (by omega), if_pos (by omega), if_neg c, wrap_id (by omega) (by omega)]
          rfl
      have hnot : ¬ keyedE x.f0 → Ev (fun n => cartoucheref07_Twins.j1 n seed h K V (i : Int) ⟨#[]⟩ ⟨#[]⟩ false) (twinsR seed h) := fun hk => by
        rw [← hxe] at ih
        refine Ev.step (fun n => ?_) ih
        simp only [cartoucheref07_Twins.j1, Bool.false_eq_true, if_false]
        unfold kIn vIn
        rw [if_neg hk, if_neg hk, if_pos (by omega), if_pos (by omega), wrap_id (by omega) (by omega)]
        rfl
      refine Ev.step (f := fun n => cartoucheref07_Twins.l0 (n + 1) seed h K V (i : Int)) (fun _ => rfl) ?_
      simp only [cartoucheref07_Twins.l0, if_pos (show (i : Int) < (h.length : Int) by omega), if_pos (show (0 : Int) ≤ (i : Int) by omega)]
      refine Ev.bind hone ?_
      rw [← hxe] at hx0
      unfold errE at hx0
      simp only [← hxe, if_pos hx0]
      by_cases h2 : x.f0 = 2
      · simp only [if_pos h2]
        exact hyes (.inl h2)
      · simp only [if_neg h2]
        by_cases h3 : x.f0 = 3
        · rw [show (x.f0 == 3) = true by simpa using h3]
          exact hyes (.inr h3)
        · rw [show (x.f0 == 3) = false by simpa using h3]
          exact hnot (fun z => z.elim h2 h3)
    · have hno : twinsR seed h = (⟨#[]⟩, ⟨#[]⟩, false) := by
        unfold twinsR
        rw [if_neg (fun z => hx0 (z _ hmem))]
      rw [hno]
      refine Ev.step (f := fun n => cartoucheref07_Twins.l0 (n + 1) seed h ((h.take i).map kIn) ((h.take i).map vIn) (i : Int)) (fun _ => rfl) ?_
      simp only [cartoucheref07_Twins.l0, if_pos (show (i : Int) < (h.length : Int) by omega), if_pos (show (0 : Int) ≤ (i : Int) by omega)]
      refine Ev.bind hone ?_
      unfold errE at hx0
      simp only [if_neg hx0]
      exact Ev.now _
theorem rTwins_f : Ev (fun k => cartoucheref07_Twins.f k seed h) (twinsR seed h) := rTwins_l0 seed h hs hl h.length 0 (by omega) (by simp)
end
end Go.Proofs.YtbckobokiioeaaaDoor
