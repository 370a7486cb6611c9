/- Where a transaction ends, where a value was written: over every row of events. -/
import Derived.Test.YtjlpjpjodhkpdaaGreatDoorEg
set_option linter.unusedVariables false
set_option linter.unusedSimpArgs false
namespace Go.Proofs.YtjlpjpjodhkpdaaGreatDoor
open Go.RowKit Go.Proofs.YtjlpjpjodhkpdaaGreatDoor.Q Go.Proofs.YtjlpjpjodhkpdaaGreatDoorW.PrintWords

def endK (h : List Evn) (t : Int) (k : Nat) : Bool := decide ((rd_T53 h k).f1 = t) && (decide ((rd_T53 h k).f0 = 4) || decide ((rd_T53 h k).f0 = 5))
def wrK (h : List Evn) (key val : ByteArray) (k : Nat) : Bool := decide ((rd_T53 h k).f0 = 3) && (decide ((rd_T53 h k).f2 = key) && decide ((rd_T53 h k).f3 = val))
set_option maxHeartbeats 8000000 in
set_option maxRecDepth 100000 in
theorem refEnd_any (A0 : Option Addr) (c0 : Nat) (l : List Evn) (t : Int) (w : World) (hr : Kd.C k53 w A0 l.length l) (hl : l.length ≤ 9223372036854775806) :
    Calls Tryz.prog 47 #[.slice A0 l.length c0, .int .i64 t, .int .i64 l.length] w fun e w' => e = .returned (.int .i64 (firstFrom (endK l t) 0 l.length)) ∧ Below w.heap.size w w' := by
  have hf := firstAt_firstFrom (endK l t) l.length
  generalize firstFrom (endK l t) 0 l.length = r at hf ⊢
  have HF := Lib.hid hf; have HR := Lib.hid hr; have hB := Below.refl w.heap.size w
  clear hf hr
  go_enter Tryz.func47, Tryz.ntmps47
  go_wp2
  go_loopw [7] (fun x u => ∃ k : Nat, k ≤ l.length ∧ x = .int .i64 (k : Int) ∧ Hid (∀ j, j < k → endK l t j = false) ∧ Below w.heap.size w u) (fun x _ => l.length + 1 - (intOf x).toNat)
  case atStart => exact ⟨0, by omega, rfl, Lib.hid (fun j h => by omega), hB⟩
  case round =>
    clear hB
    obtain ⟨k, hk, rfl, HA, hB⟩ := hrel
    by_cases hc : k < l.length
    · have hlt : decide ((k : Int) < (l.length : Int)) = true := by simp; omega
      have hlt2 : decide (k < l.length) = true := by simp; omega
      obtain ⟨ad, rfl, y0, y1, y2, y3⟩ := at_T53 (Kd.C_below HR.out hB) (k : Int) (by omega) (by omega)
      simp only [Int.toNat_natCast] at y0 y1 y2 y3
      cases hq : endK l t k with
      | true =>
        have hrk := Lib.hid (HF.out.1 k hc HA.out hq)
        unfold endK at hq
        generalize rd_T53 l (k : Int) = x at *
        obtain ⟨x0, x1, x2, x3⟩ := x
        dsimp only at *
        simp only [Bool.and_eq_true, Bool.or_eq_true, decide_eq_true_eq] at hq
        obtain ⟨rfl, rfl | rfl⟩ := hq
        all_goals clear HF HR HA
        all_goals go_wp2
        all_goals go_ret
        all_goals exact ⟨by rw [hrk.out]; rfl, hB⟩
      | false =>
        have HX := Lib.hid (show ∀ j, j < k + 1 → endK l t j = false from fun j hj => by
          by_cases e : j = k
          · rw [e]; exact hq
          · exact HA.out j (by omega))
        unfold endK at hq
        generalize rd_T53 l (k : Int) = x at *
        obtain ⟨x0, x1, x2, x3⟩ := x
        dsimp only at *
        clear HF HR HA
        by_cases e1 : x1 = t
        · subst e1
          simp only [decide_true, Bool.true_and, Bool.or_eq_false_iff, decide_eq_false_iff_not] at hq
          obtain ⟨n4, n5⟩ := hq
          have m4 : (x0 == 4) = false := beq_eq_false_iff_ne.mpr n4
          have m5 : (x0 == 5) = false := beq_eq_false_iff_ne.mpr n5
          go_wp2
          go_roundw
          case rel => exact ⟨k + 1, by omega, by go_num, HX, hB⟩
          case measure => simp [intOf]; omega
        · clear hq
          go_wp2
          go_roundw
          case rel => exact ⟨k + 1, by omega, by go_num, HX, hB⟩
          case measure => simp [intOf]; omega
    · have hrk := Lib.hid (HF.out.2 (fun j hj => HA.out j (by omega)))
      have hlt : decide ((k : Int) < (l.length : Int)) = false := by simp; omega
      have hlt2 : decide (k < l.length) = false := by simp; omega
      clear HR HF
      go_wp2
      go_ret
      exact ⟨by rw [hrk.out]; rfl, hB⟩
set_option maxHeartbeats 8000000 in
set_option maxRecDepth 100000 in
theorem refWriter_any (A0 : Option Addr) (c0 : Nat) (l : List Evn) (key val : ByteArray) (w : World) (hr : Kd.C k53 w A0 l.length l) (hl : l.length ≤ 9223372036854775806) :
    Calls Tryz.prog 48 #[.slice A0 l.length c0, .string key, .string val] w fun e w' => e = .returned (.int .i64 (firstFrom (wrK l key val) 0 l.length)) ∧ Below w.heap.size w w' := by
  have hf := firstAt_firstFrom (wrK l key val) l.length
  generalize firstFrom (wrK l key val) 0 l.length = r at hf ⊢
  have HF := Lib.hid hf; have HR := Lib.hid hr; have hB := Below.refl w.heap.size w
  clear hf hr
  go_enter Tryz.func48, Tryz.ntmps48
  go_wp2
  go_loopw [7] (fun x u => ∃ k : Nat, k ≤ l.length ∧ x = .int .i64 (k : Int) ∧ Hid (∀ j, j < k → wrK l key val j = false) ∧ Below w.heap.size w u) (fun x _ => l.length + 1 - (intOf x).toNat)
  case atStart => exact ⟨0, by omega, rfl, Lib.hid (fun j h => by omega), hB⟩
  case round =>
    clear hB
    obtain ⟨k, hk, rfl, HA, hB⟩ := hrel
    by_cases hc : k < l.length
    · have hlt : decide ((k : Int) < (l.length : Int)) = true := by simp; omega
      have hlt2 : decide (k < l.length) = true := by simp; omega
      obtain ⟨ad, rfl, y0, y1, y2, y3⟩ := at_T53 (Kd.C_below HR.out hB) (k : Int) (by omega) (by omega)
      simp only [Int.toNat_natCast] at y0 y1 y2 y3
      cases hq : wrK l key val k with
      | true =>
        have hrk := Lib.hid (HF.out.1 k hc HA.out hq)
        unfold wrK at hq
        generalize rd_T53 l (k : Int) = x at *
        obtain ⟨x0, x1, x2, x3⟩ := x
        dsimp only at *
        simp only [Bool.and_eq_true, decide_eq_true_eq] at hq
        obtain ⟨rfl, rfl, rfl⟩ := hq
        all_goals clear HF HR HA
        all_goals go_wp2
        all_goals go_ret
        all_goals exact ⟨by rw [hrk.out]; rfl, hB⟩
      | false =>
        have HX := Lib.hid (show ∀ j, j < k + 1 → wrK l key val j = false from fun j hj => by
          by_cases e : j = k
          · rw [e]; exact hq
          · exact HA.out j (by omega))
        unfold wrK at hq
        generalize rd_T53 l (k : Int) = x at *
        obtain ⟨x0, x1, x2, x3⟩ := x
        dsimp only at *
        clear HF HR HA
        by_cases e1 : x0 = 3
        · subst e1
          by_cases e2 : x2 = key
          · subst e2
            have e3 : x3 ≠ val := fun h => by subst h; simp at hq
            have t1 := ba_list_ne e3
            have t2 : (x3.toList == val.toList) = false := by rw [ba_list]; exact decide_eq_false e3
            clear hq
            go_wp2
            go_roundw
            case rel => exact ⟨k + 1, by omega, by go_num, HX, hB⟩
            case measure => simp [intOf]; omega
          · have t1 := ba_list_ne e2
            have t2 : (x2.toList == key.toList) = false := by rw [ba_list]; exact decide_eq_false e2
            clear hq
            go_wp2
            go_roundw
            case rel => exact ⟨k + 1, by omega, by go_num, HX, hB⟩
            case measure => simp [intOf]; omega
        · have m3 : (x0 == 3) = false := beq_eq_false_iff_ne.mpr e1
          clear hq
          go_wp2
          go_roundw
          case rel => exact ⟨k + 1, by omega, by go_num, HX, hB⟩
          case measure => simp [intOf]; omega
    · have hrk := Lib.hid (HF.out.2 (fun j hj => HA.out j (by omega)))
      have hlt : decide ((k : Int) < (l.length : Int)) = false := by simp; omega
      have hlt2 : decide (k < l.length) = false := by simp; omega
      clear HR HF
      go_wp2
      go_ret
      exact ⟨by rw [hrk.out]; rfl, hB⟩
/-- Where a transaction was committed. -/
def comK (h : List Evn) (t : Int) : Int := if 0 ≤ firstFrom (endK h t) 0 h.length ∧ (rd_T53 h (firstFrom (endK h t) 0 h.length)).f0 = 4 then firstFrom (endK h t) 0 h.length else -1
set_option maxHeartbeats 8000000 in
set_option maxRecDepth 100000 in
theorem committed_any (A0 : Option Addr) (c0 : Nat) (l : List Evn) (t : Int) (w : World) (hr : Kd.C k53 w A0 l.length l) (hl : l.length ≤ 9223372036854775806) :
    Calls Tryz.prog 60 #[.slice A0 l.length c0, .int .i64 t] w fun e w' => e = .returned (.int .i64 (comK l t)) ∧ Below w.heap.size w w' := by
  have HE := Lib.hid (refEnd_any A0 c0 l t w hr hl)
  have hcs := firstFrom_cases (endK l t) l.length 0
  unfold comK
  generalize firstFrom (endK l t) 0 l.length = r at *
  have HR := Lib.hid hr
  clear hr
  rcases hcs with ⟨rfl, _⟩ | ⟨k, rfl, _, hk, _, _⟩
  · go_enter Tryz.func60, Tryz.ntmps60
    go_wp2_with (go_at_call 47; with_reducible refine HE.out.mono ?_; rintro e w1 ⟨rfl, hb⟩; have HB1 := Lib.hid hb; clear hb)
    go_ret
    exact ⟨rfl, HB1.out⟩
  · have hk' : k < l.length := by omega
    have n1 : ¬ ((k : Int) < 0) := by omega
    have n2 : decide ((k : Int) < 0) = false := decide_eq_false n1
    by_cases h4 : (rd_T53 l (k : Int)).f0 = 4
    · rw [if_pos ⟨by omega, h4⟩]
      go_enter Tryz.func60, Tryz.ntmps60
      go_wp2_with (go_at_call 47; with_reducible refine HE.out.mono ?_; rintro e w1 ⟨rfl, hb⟩; obtain ⟨ad, rfl, y0, y1, y2, y3⟩ := at_T53 (Kd.C_below HR.out hb) (k : Int) (by omega) (by omega); rw [h4] at y0; simp only [Int.toNat_natCast] at y0; have HB1 := Lib.hid hb; clear hb)
      go_ret
      exact ⟨rfl, HB1.out⟩
    · rw [if_neg (fun h => h4 h.2)]
      have m4 : ((rd_T53 l (k : Int)).f0 == 4) = false := beq_eq_false_iff_ne.mpr h4
      have m5 : ((rd_T53 l (k : Int)).f0 != 4) = true := bne_iff_ne.mpr h4
      go_enter Tryz.func60, Tryz.ntmps60
      go_wp2_with (go_at_call 47; with_reducible refine HE.out.mono ?_; rintro e w1 ⟨rfl, hb⟩; obtain ⟨ad, rfl, y0, y1, y2, y3⟩ := at_T53 (Kd.C_below HR.out hb) (k : Int) (by omega) (by omega); simp only [Int.toNat_natCast] at y0; have HB1 := Lib.hid hb; clear hb)
      go_ret
      exact ⟨rfl, HB1.out⟩
end Go.Proofs.YtjlpjpjodhkpdaaGreatDoor
