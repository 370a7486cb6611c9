/- cartoucheref15.At, Ends, Writer, Commit: over every row of proofs. -/
import Derived.Test.YtjlpjpjodhkpdaaGreatDoorEg
set_option maxHeartbeats 8000000
set_option maxRecDepth 100000
set_option linter.unusedVariables false
set_option linter.unusedSimpArgs false
namespace Go.Proofs.YtjlpjpjodhkpdaaGreatDoor
open Go.RowKit Go.Proofs.YtjlpjpjodhkpdaaGreatDoor.Q Go.Proofs.YtjlpjpjodhkpdaaGreatDoorW.PrintWords
theorem idx_cases (q : Prf → Bool) (l : List Prf) : (firstFrom (atK q l) 0 l.length = -1 ∧ isP q l = false) ∨ ∃ k : Nat, k < l.length ∧ firstFrom (atK q l) 0 l.length = k ∧ isP q l = true ∧ foundP q l = rd_T55 l (k : Int) := by
 rcases firstFrom_zero (atK q l) l.length with ⟨h1, h2⟩ | ⟨k, h1, h2, h3, h4⟩
 · refine .inl ⟨h1, ?_⟩
   unfold isP
   have : l.find? q = none := by
    rw [List.find?_eq_none]
    intro p hp
    obtain ⟨j, hj, e⟩ := List.mem_iff_getElem.1 hp
    have h := h2 j hj
    unfold atK at h
    rw [rdT_nat, List.getD_eq_getElem?_getD, List.getElem?_eq_getElem hj, Option.getD_some, e] at h
    simp [h]
   rw [this]; rfl
 · have hf := find_split q l k h2 (by have := h3; unfold atK at this; rwa [rdT_nat] at this) (fun j hj => by have := h4 j hj; unfold atK at this; rwa [rdT_nat] at this)
   refine .inr ⟨k, h2, h1, ?_, ?_⟩
   · unfold isP; rw [hf]; rfl
   · unfold foundP; rw [hf, rdT_nat]; rfl
theorem rAt_any (A0 : Option Addr) (c0 : Nat) (l : List Prf) (i : Int) (w : World) (hr : Kd.C k55 w A0 l.length l) (hl : l.length ≤ 9223372036854775806) :
 Calls Tryz.prog 42 #[.slice A0 l.length c0, .int .i64 i] w fun e w' => e = .returned (.int .i64 (firstFrom (atK (isAt i) l) 0 l.length)) ∧ Below w.heap.size w w' := by
 have hf := firstAt_firstFrom (atK (isAt i) l) l.length
 generalize firstFrom (atK (isAt i) l) 0 l.length = r at hf ⊢
 have HF := Lib.hid hf; have HR := Lib.hid hr; have hB := Below.refl w.heap.size w
 clear hf hr
 go_enter Tryz.func42, Tryz.ntmps42
 go_wp2
 go_loopw [5] (fun x u => ∃ k : Nat, k ≤ l.length ∧ x = .int .i64 (k : Int) ∧ Hid (∀ j, j < k → atK (isAt i) l j = false) ∧ Below w.heap.size w u) (fun x _ => l.length + 1 - (intOf x).toNat)
 case atStart => exact ⟨0, by omega, rfl, Lib.hid (fun j h => by omega), hB⟩
 case round =>
  clear hB
  obtain ⟨k, hk, rfl, HA, hB⟩ := hrel
  by_cases hc : k < l.length
  · have hlt : decide ((k : Int) < (l.length : Int)) = true := by simp; omega
    have hlt2 : decide (k < l.length) = true := by simp; omega
    obtain ⟨ad, A5, c5, rfl, y0, y1, y2, y3, y4, y5, l5, C5⟩ := at_T55 (Kd.C_below HR.out hB) (k : Int) (by omega) (by omega)
    simp only [Int.toNat_natCast] at y0 y1 y2 y3 y4 y5
    clear l5 C5
    cases hq : atK (isAt i) l k with
    | true =>
      have hrk := Lib.hid (HF.out.1 k hc HA.out hq)
      unfold atK isAt at hq
      generalize rd_T55 l (k : Int) = x at *
      obtain ⟨x9, ⟨x0, x1, x2, x3⟩, x8⟩ := x
      dsimp only at *
      simp only [Bool.and_eq_true, Bool.or_eq_true, decide_eq_true_eq] at hq
      subst hq
      all_goals clear HF HR HA
      all_goals go_wp2
      all_goals go_ret
      all_goals exact ⟨by rw [hrk.out]; rfl, hB⟩
    | false =>
      have HX := Lib.hid (show ∀ j, j < k + 1 → atK (isAt i) l j = false from fun j hj => by
       by_cases e : j = k
       · rw [e]; exact hq
       · exact HA.out j (by omega))
      unfold atK isAt at hq
      generalize rd_T55 l (k : Int) = x at *
      obtain ⟨x9, ⟨x0, x1, x2, x3⟩, x8⟩ := x
      dsimp only at *
      clear HF HR HA
      have m1 : x9 ≠ i := fun h => by subst h; simp at hq
      have m2 : (x9 == i) = false := beq_eq_false_iff_ne.mpr m1
      clear hq
      go_wp2
      go_roundw
      case rel => exact ⟨k + 1, by omega, by go_num, HX, hB⟩
      case measure => simp [intOf]; omega
  · have hrk := Lib.hid (HF.out.2 (fun j hj => HA.out j (by omega)))
    have hlt : decide ((k : Int) < (l.length : Int)) = false := by simp; omega
    have hlt2 : decide (k < l.length) = false := by simp; omega
    clear HR HF
    go_wp2
    go_ret
    exact ⟨by rw [hrk.out]; rfl, hB⟩
theorem rEnds_any (A0 : Option Addr) (c0 : Nat) (l : List Prf) (t : Int) (w : World) (hr : Kd.C k55 w A0 l.length l) (hl : l.length ≤ 9223372036854775806) :
 Calls Tryz.prog 45 #[.slice A0 l.length c0, .int .i64 t] w fun e w' => e = .returned (.int .i64 (firstFrom (atK (isEnd t) l) 0 l.length)) ∧ Below w.heap.size w w' := by
 have hf := firstAt_firstFrom (atK (isEnd t) l) l.length
 generalize firstFrom (atK (isEnd t) l) 0 l.length = r at hf ⊢
 have HF := Lib.hid hf; have HR := Lib.hid hr; have hB := Below.refl w.heap.size w
 clear hf hr
 go_enter Tryz.func45, Tryz.ntmps45
 go_wp2
 go_loopw [5] (fun x u => ∃ k : Nat, k ≤ l.length ∧ x = .int .i64 (k : Int) ∧ Hid (∀ j, j < k → atK (isEnd t) l j = false) ∧ Below w.heap.size w u) (fun x _ => l.length + 1 - (intOf x).toNat)
 case atStart => exact ⟨0, by omega, rfl, Lib.hid (fun j h => by omega), hB⟩
 case round =>
  clear hB
  obtain ⟨k, hk, rfl, HA, hB⟩ := hrel
  by_cases hc : k < l.length
  · have hlt : decide ((k : Int) < (l.length : Int)) = true := by simp; omega
    have hlt2 : decide (k < l.length) = true := by simp; omega
    obtain ⟨ad, A5, c5, rfl, y0, y1, y2, y3, y4, y5, l5, C5⟩ := at_T55 (Kd.C_below HR.out hB) (k : Int) (by omega) (by omega)
    simp only [Int.toNat_natCast] at y0 y1 y2 y3 y4 y5
    clear l5 C5
    cases hq : atK (isEnd t) l k with
    | true =>
      have hrk := Lib.hid (HF.out.1 k hc HA.out hq)
      unfold atK isEnd at hq
      generalize rd_T55 l (k : Int) = x at *
      obtain ⟨x9, ⟨x0, x1, x2, x3⟩, x8⟩ := x
      dsimp only at *
      simp only [Bool.and_eq_true, Bool.or_eq_true, decide_eq_true_eq] at hq
      obtain ⟨rfl, rfl | rfl⟩ := hq
      all_goals clear HF HR HA
      all_goals go_wp2
      all_goals go_ret
      all_goals exact ⟨by rw [hrk.out]; rfl, hB⟩
    | false =>
      have HX := Lib.hid (show ∀ j, j < k + 1 → atK (isEnd t) l j = false from fun j hj => by
       by_cases e : j = k
       · rw [e]; exact hq
       · exact HA.out j (by omega))
      unfold atK isEnd at hq
      generalize rd_T55 l (k : Int) = x at *
      obtain ⟨x9, ⟨x0, x1, x2, x3⟩, x8⟩ := x
      dsimp only at *
      clear HF HR HA
      by_cases e1 : x1 = t
      · subst e1
        simp only [decide_true, Bool.true_and, Bool.or_eq_false_iff, decide_eq_false_iff_not] at hq
        obtain ⟨n4, n5⟩ := hq
        have hq : True := trivial
        have m4 : (x0 == 4) = false := beq_eq_false_iff_ne.mpr n4
        have m5 : (x0 == 5) = false := beq_eq_false_iff_ne.mpr n5
        clear hq
        go_wp2
        go_roundw
        case rel => exact ⟨k + 1, by omega, by go_num, HX, hB⟩
        case measure => simp [intOf]; omega
      · have m1 : (x1 == t) = false := beq_eq_false_iff_ne.mpr e1
        clear hq
        go_wp2
        go_roundw
        case rel => exact ⟨k + 1, by omega, by go_num, HX, hB⟩
        case measure => simp [intOf]; omega
  · have hrk := Lib.hid (HF.out.2 (fun j hj => HA.out j (by omega)))
    have hlt : decide ((k : Int) < (l.length : Int)) = false := by simp; omega
    have hlt2 : decide (k < l.length) = false := by simp; omega
    clear HR HF
    go_wp2
    go_ret
    exact ⟨by rw [hrk.out]; rfl, hB⟩
theorem rWriter_any (A0 : Option Addr) (c0 : Nat) (l : List Prf) (key val : ByteArray) (w : World) (hr : Kd.C k55 w A0 l.length l) (hl : l.length ≤ 9223372036854775806) :
 Calls Tryz.prog 44 #[.slice A0 l.length c0, .string key, .string val] w fun e w' => e = .returned (.int .i64 (firstFrom (atK (isWr key val) l) 0 l.length)) ∧ Below w.heap.size w w' := by
 have hf := firstAt_firstFrom (atK (isWr key val) l) l.length
 generalize firstFrom (atK (isWr key val) l) 0 l.length = r at hf ⊢
 have HF := Lib.hid hf; have HR := Lib.hid hr; have hB := Below.refl w.heap.size w
 clear hf hr
 go_enter Tryz.func44, Tryz.ntmps44
 go_wp2
 go_loopw [7] (fun x u => ∃ k : Nat, k ≤ l.length ∧ x = .int .i64 (k : Int) ∧ Hid (∀ j, j < k → atK (isWr key val) l j = false) ∧ Below w.heap.size w u) (fun x _ => l.length + 1 - (intOf x).toNat)
 case atStart => exact ⟨0, by omega, rfl, Lib.hid (fun j h => by omega), hB⟩
 case round =>
  clear hB
  obtain ⟨k, hk, rfl, HA, hB⟩ := hrel
  by_cases hc : k < l.length
  · have hlt : decide ((k : Int) < (l.length : Int)) = true := by simp; omega
    have hlt2 : decide (k < l.length) = true := by simp; omega
    obtain ⟨ad, A5, c5, rfl, y0, y1, y2, y3, y4, y5, l5, C5⟩ := at_T55 (Kd.C_below HR.out hB) (k : Int) (by omega) (by omega)
    simp only [Int.toNat_natCast] at y0 y1 y2 y3 y4 y5
    clear l5 C5
    cases hq : atK (isWr key val) l k with
    | true =>
      have hrk := Lib.hid (HF.out.1 k hc HA.out hq)
      unfold atK isWr at hq
      generalize rd_T55 l (k : Int) = x at *
      obtain ⟨x9, ⟨x0, x1, x2, x3⟩, x8⟩ := x
      dsimp only at *
      simp only [Bool.and_eq_true, Bool.or_eq_true, decide_eq_true_eq] at hq
      obtain ⟨rfl, rfl, rfl⟩ := hq
      all_goals clear HF HR HA
      all_goals go_wp2
      all_goals go_ret
      all_goals exact ⟨by rw [hrk.out]; rfl, hB⟩
    | false =>
      have HX := Lib.hid (show ∀ j, j < k + 1 → atK (isWr key val) l j = false from fun j hj => by
       by_cases e : j = k
       · rw [e]; exact hq
       · exact HA.out j (by omega))
      unfold atK isWr at hq
      generalize rd_T55 l (k : Int) = x at *
      obtain ⟨x9, ⟨x0, x1, x2, x3⟩, x8⟩ := x
      dsimp only at *
      clear HF HR HA
      by_cases e1 : x0 = 3
      · subst e1
        by_cases e2 : x2 = key
        · subst e2
          have e3 : x3 ≠ val := fun h => by subst h; simp at hq
          have t1 := ba_list_ne e3
          have t2 : (x3.toList == val.toList) = false := by rw [ba_list]; exact decide_eq_false e3
          clear hq
          go_wp2
          go_roundw
          case rel => exact ⟨k + 1, by omega, by go_num, HX, hB⟩
          case measure => simp [intOf]; omega
        · have t1 := ba_list_ne e2
          have t2 : (x2.toList == key.toList) = false := by rw [ba_list]; exact decide_eq_false e2
          clear hq
          go_wp2
          go_roundw
          case rel => exact ⟨k + 1, by omega, by go_num, HX, hB⟩
          case measure => simp [intOf]; omega
      · have m3 : (x0 == 3) = false := beq_eq_false_iff_ne.mpr e1
        clear hq
        go_wp2
        go_roundw
        case rel => exact ⟨k + 1, by omega, by go_num, HX, hB⟩
        case measure => simp [intOf]; omega
  · have hrk := Lib.hid (HF.out.2 (fun j hj => HA.out j (by omega)))
    have hlt : decide ((k : Int) < (l.length : Int)) = false := by simp; omega
    have hlt2 : decide (k < l.length) = false := by simp; omega
    clear HR HF
    go_wp2
    go_ret
    exact ⟨by rw [hrk.out]; rfl, hB⟩
theorem rCommit_any (A0 : Option Addr) (c0 : Nat) (l : List Prf) (t : Int) (w : World) (hr : Kd.C k55 w A0 l.length l) (hl : l.length ≤ 9223372036854775806) :
 Calls Tryz.prog 43 #[.slice A0 l.length c0, .int .i64 t] w fun e w' => e = .returned (.int .i64 (lnCommit l t)) ∧ Below w.heap.size w w' := by
 have HE := Lib.hid (rEnds_any A0 c0 l t w hr hl)
 have HR := Lib.hid hr
 clear hr
 unfold lnCommit
 rcases idx_cases (isEnd t) l with ⟨h1, h2⟩ | ⟨k, hk, h1, h2, h3⟩
 · rw [h1] at HE
   rw [h2, if_neg (fun h => by have := h.1; cases this)]
   go_enter Tryz.func43, Tryz.ntmps43
   go_wp2_with (go_at_call 45; with_reducible refine HE.out.mono ?_; rintro e w1 ⟨rfl, hb⟩; have HB1 := Lib.hid hb; clear hb)
   go_ret
   exact ⟨rfl, HB1.out⟩
 · rw [h1] at HE
   rw [h2, h3]
   have n1 : ¬ ((k : Int) < 0) := by omega
   have n2 : decide ((k : Int) < 0) = false := decide_eq_false n1
   by_cases h4 : (rd_T55 l (k : Int)).f1.f0 = 4
   · rw [if_pos ⟨rfl, h4⟩]
     go_enter Tryz.func43, Tryz.ntmps43
     go_wp2_with (go_at_call 45; with_reducible refine HE.out.mono ?_; rintro e w1 ⟨rfl, hb⟩; obtain ⟨ad, A5, c5, rfl, y0, y1, y2, y3, y4, y5, l5, C5⟩ := at_T55 (Kd.C_below HR.out hb) (k : Int) (by omega) (by omega); rw [h4] at y1; simp only [Int.toNat_natCast] at y0 y1; have HB1 := Lib.hid hb; clear hb l5 C5)
     go_ret
     exact ⟨rfl, HB1.out⟩
   · rw [if_neg (fun h => h4 h.2)]
     have m4 : ((rd_T55 l (k : Int)).f1.f0 == 4) = false := beq_eq_false_iff_ne.mpr h4
     have m5 : ((rd_T55 l (k : Int)).f1.f0 != 4) = true := bne_iff_ne.mpr h4
     go_enter Tryz.func43, Tryz.ntmps43
     go_wp2_with (go_at_call 45; with_reducible refine HE.out.mono ?_; rintro e w1 ⟨rfl, hb⟩; obtain ⟨ad, A5, c5, rfl, y0, y1, y2, y3, y4, y5, l5, C5⟩ := at_T55 (Kd.C_below HR.out hb) (k : Int) (by omega) (by omega); simp only [Int.toNat_natCast] at y0 y1; have HB1 := Lib.hid hb; clear hb l5 C5)
     go_ret
     exact ⟨rfl, HB1.out⟩
end Go.Proofs.YtjlpjpjodhkpdaaGreatDoor
