/- slices.IndexFunc, slices.ContainsFunc over proofs, edges, numbers, texts, whatever the predicate. -/
import Derived.Shelf.Abstract
import Derived.Test.YtjlpjpjodhkpdaaGreatDoorCc
import Derived.Test.YtjlpjpjodhkpdaaGreatDoorQH
set_option maxHeartbeats 4000000
set_option maxRecDepth 100000
set_option linter.unusedVariables false
set_option linter.unusedSimpArgs false
namespace Go.Proofs.YtjlpjpjodhkpdaaGreatDoor
open Go.RowKit Go.Proofs.YtjlpjpjodhkpdaaGreatDoor.Q Go.Proofs.YtjlpjpjodhkpdaaGreatDoorW.PrintWords
def FirstAt (p : Nat → Bool) (n : Nat) (r : Int) : Prop := (∀ k, k < n → (∀ j, j < k → p j = false) → p k = true → r = k) ∧ ((∀ j, j < n → p j = false) → r = -1)
def firstFrom (p : Nat → Bool) (i : Nat) : Nat → Int
 | 0 => -1
 | d + 1 => if p i then (i : Int) else firstFrom p (i + 1) d
theorem firstFrom_hit (p : Nat → Bool) : ∀ (d i k : Nat), i ≤ k → k < i + d → (∀ j, i ≤ j → j < k → p j = false) → p k = true → firstFrom p i d = k
 | 0, i, k, h1, h2, _, _ => by omega
 | d + 1, i, k, h1, h2, h3, h4 => by
   unfold firstFrom
   by_cases e : i = k
   · subst e; rw [if_pos h4]
   · rw [if_neg (by rw [h3 i (Nat.le_refl _) (by omega)]; decide)]
     exact firstFrom_hit p d (i + 1) k (by omega) (by omega) (fun j a b => h3 j (by omega) b) h4
theorem firstFrom_miss (p : Nat → Bool) : ∀ (d i : Nat), (∀ j, i ≤ j → j < i + d → p j = false) → firstFrom p i d = -1
 | 0, i, _ => rfl
 | d + 1, i, h => by
   unfold firstFrom
   rw [if_neg (by rw [h i (Nat.le_refl _) (by omega)]; decide)]
   exact firstFrom_miss p d (i + 1) fun j a b => h j (by omega) (by omega)
theorem firstAt_firstFrom (p : Nat → Bool) (n : Nat) : FirstAt p n (firstFrom p 0 n) :=
 ⟨fun k h1 h2 h3 => firstFrom_hit p n 0 k (Nat.zero_le _) (by omega) (fun j _ h => h2 j h) h3, fun h => firstFrom_miss p n 0 fun j _ hj => h j (by omega)⟩
theorem firstFrom_cases (p : Nat → Bool) : ∀ (d i : Nat), (firstFrom p i d = -1 ∧ ∀ j, i ≤ j → j < i + d → p j = false) ∨ ∃ k : Nat, firstFrom p i d = k ∧ i ≤ k ∧ k < i + d ∧ p k = true ∧ ∀ j, i ≤ j → j < k → p j = false
 | 0, i => .inl ⟨rfl, fun j a b => by omega⟩
 | d + 1, i => by
   unfold firstFrom
   cases hp : p i with
   | true => exact .inr ⟨i, by rw [if_pos rfl], Nat.le_refl _, by omega, hp, fun j a b => by omega⟩
   | false =>
     rw [if_neg (by decide)]
     rcases firstFrom_cases p d (i + 1) with ⟨h1, h2⟩ | ⟨k, h1, h2, h3, h4, h5⟩
     · refine .inl ⟨h1, fun j a b => ?_⟩
       by_cases e : j = i
       · rw [e]; exact hp
       · exact h2 j (by omega) (by omega)
     · refine .inr ⟨k, h1, by omega, by omega, h4, fun j a b => ?_⟩
       by_cases e : j = i
       · rw [e]; exact hp
       · exact h5 j (by omega) b
theorem firstFrom_zero (p : Nat → Bool) (n : Nat) : (firstFrom p 0 n = -1 ∧ ∀ j, j < n → p j = false) ∨ ∃ k : Nat, firstFrom p 0 n = k ∧ k < n ∧ p k = true ∧ ∀ j, j < k → p j = false := by
 rcases firstFrom_cases p n 0 with ⟨h1, h2⟩ | ⟨k, h1, _, h3, h4, h5⟩
 · exact .inl ⟨h1, fun j hj => h2 j (Nat.zero_le _) (by omega)⟩
 · exact .inr ⟨k, h1, by omega, h4, fun j hj => h5 j (Nat.zero_le _) hj⟩
def PredP (F : Nat) (caps : Array Value) (l : List S55) (p : Nat → Bool) (w : World) : Prop :=
 ∀ k, k < l.length → ∀ W, Below w.heap.size w W → ∀ A5 c5, (rd_T55 l k).f2.length ≤ c5 → Kd.string.C W A5 (rd_T55 l k).f2.length (rd_T55 l k).f2 → Calls Tryz.prog F (#[.agg #[.int .i64 (rd_T55 l k).f0, .int .i64 (rd_T55 l k).f1.f0, .int .i64 (rd_T55 l k).f1.f1, .string (rd_T55 l k).f1.f2, .string (rd_T55 l k).f1.f3, .slice A5 (rd_T55 l k).f2.length c5]] ++ caps) W fun e W' => e = .returned (.bool (p k)) ∧ Below W.heap.size W W'
theorem PredP.up {F : Nat} {caps : Array Value} {l : List S55} {p : Nat → Bool} {w w' : World} (h : PredP F caps l p w) (hb : Below w.heap.size w w') : PredP F caps l p w' := fun k hk W hW => h k hk W (hb.trans (hW.mono hb.size))
theorem indexP_any (F : Nat) (eg : ∀ args w, (callFunc F args).run Tryz.prog w = .ok (.enter F args) w) (caps : Array Value) (A0 : Option Addr) (c0 : Nat) (l : List S55) (p : Nat → Bool) (w : World) (hr : Kd.C k55 w A0 l.length l) (hl : l.length ≤ 9223372036854775806) (hp : PredP F caps l p w) :
 Calls Tryz.prog 105 #[.slice A0 l.length c0, .func (.func F) #[] caps] w fun e w' => e = .returned (.int .i64 (firstFrom p 0 l.length)) ∧ Below w.heap.size w w' := by
 have hf := firstAt_firstFrom p l.length
 generalize firstFrom p 0 l.length = r at hf ⊢
 have HF := Lib.hid hf; have HR := Lib.hid hr; have HP := Lib.hid hp; have hB := Below.refl w.heap.size w
 clear hf hr hp
 go_enter Tryz.func105, Tryz.ntmps105
 go_wp2
 go_loopw [8] (fun x u => ∃ k : Nat, k ≤ l.length ∧ x = .int .i64 (k : Int) ∧ Hid (∀ j, j < k → p j = false) ∧ Below w.heap.size w u) (fun x _ => l.length + 1 - (intOf x).toNat)
 case atStart => exact ⟨0, by omega, rfl, Lib.hid (fun j h => by omega), hB⟩
 case round =>
  clear hB
  obtain ⟨k, hk, rfl, HA, hB⟩ := hrel
  by_cases hc : k < l.length
  · have hlt : decide ((k : Int) < (l.length : Int)) = true := by simp; omega
    have hlt2 : decide (k < l.length) = true := by simp; omega
    have hcC := Kd.C_below HR.out hB
    have hcall := HP.out k hc wr hB
    obtain ⟨ad, A5, c5, rfl, h0, h1, h2, h3, h4, h5, hl5, hC5⟩ := at_T55 hcC (k : Int) (by omega) (by omega)
    simp only [Int.toNat_natCast] at *
    have HCl := Lib.hid hcall
    clear hcall hcC
    have HL5 := Lib.hid hl5; have HC5 := Lib.hid hC5; clear hl5 hC5; generalize rd_T55 l (k : Int) = x at *; have n5 := x.f2.length; obtain ⟨x0, ⟨x1, x2, x3, x4⟩, x5⟩ := x; dsimp only at *
    cases hq : p k with
    | true =>
      have hrk := Lib.hid (HF.out.1 k hc HA.out hq)
      rw [hq] at HCl
      have HC2 := Lib.hid HCl.out
      clear HCl HF HP HR HA hq
      go_wp2_with (go_at_fn F; refine (HC2.out A5 c5 HL5.out HC5.out).mono ?_; rintro e W' ⟨rfl, hb2⟩; have hB2 := hB.trans (hb2.mono hB.size); clear hb2)
      go_ret
      exact ⟨by rw [hrk.out]; rfl, hB2⟩
    | false =>
      rw [hq] at HCl
      have HC2 := Lib.hid HCl.out
      have HX := Lib.hid (show ∀ j, j < k + 1 → p j = false from fun j hj => by
       by_cases e : j = k
       · rw [e]; exact hq
       · exact HA.out j (by omega))
      clear HCl HF HP HR HA hq
      go_wp2_with (go_at_fn F; refine (HC2.out A5 c5 HL5.out HC5.out).mono ?_; rintro e W' ⟨rfl, hb2⟩; have hB2 := hB.trans (hb2.mono hB.size); clear hb2)
      go_roundw
      case rel => exact ⟨k + 1, by omega, by go_num, HX, hB2⟩
      case measure => simp [intOf]; omega
  · have hrk := Lib.hid (HF.out.2 (fun j hj => HA.out j (by omega)))
    have hlt : decide ((k : Int) < (l.length : Int)) = false := by simp; omega
    have hlt2 : decide (k < l.length) = false := by simp; omega
    clear HR HP HF
    go_wp2
    go_ret
    exact ⟨by rw [hrk.out]; rfl, hB⟩
theorem containsP_any (F : Nat) (eg : ∀ args w, (callFunc F args).run Tryz.prog w = .ok (.enter F args) w) (caps : Array Value) (A0 : Option Addr) (c0 : Nat) (l : List S55) (p : Nat → Bool) (w : World) (hr : Kd.C k55 w A0 l.length l) (hl : l.length ≤ 9223372036854775806) (hp : PredP F caps l p w) :
 Calls Tryz.prog 71 #[.slice A0 l.length c0, .func (.func F) #[] caps] w fun e w' => e = .returned (.bool (decide (0 ≤ firstFrom p 0 l.length))) ∧ Below w.heap.size w w' := by
 have HI := Lib.hid (indexP_any F eg caps A0 c0 l p w hr hl hp)
 generalize firstFrom p 0 l.length = r at HI ⊢
 clear hr hp
 go_enter Tryz.func71, Tryz.ntmps71
 go_wp2_with (go_at_call 105; refine Pause'.out ?_)
 constructor
 refine HI.out.mono ?_
 rintro e u ⟨rfl, hB⟩
 go_wp2
 go_ret
 exact ⟨by first | rfl | (simp; done), hB⟩
def PredE (F : Nat) (caps : Array Value) (l : List S32) (p : Nat → Bool) (w : World) : Prop :=
 ∀ k, k < l.length → ∀ W, Below w.heap.size w W → Calls Tryz.prog F (#[.agg #[.int .i64 (rd_T32 l k).f0, .int .i64 (rd_T32 l k).f1, .int .i64 (rd_T32 l k).f2, .int .i64 (rd_T32 l k).f3, .int .i64 (rd_T32 l k).f4]] ++ caps) W fun e W' => e = .returned (.bool (p k)) ∧ Below W.heap.size W W'
theorem PredE.up {F : Nat} {caps : Array Value} {l : List S32} {p : Nat → Bool} {w w' : World} (h : PredE F caps l p w) (hb : Below w.heap.size w w') : PredE F caps l p w' := fun k hk W hW => h k hk W (hb.trans (hW.mono hb.size))
theorem indexE_any (F : Nat) (eg : ∀ args w, (callFunc F args).run Tryz.prog w = .ok (.enter F args) w) (caps : Array Value) (A0 : Option Addr) (c0 : Nat) (l : List S32) (p : Nat → Bool) (w : World) (hr : Kd.C k32 w A0 l.length l) (hl : l.length ≤ 9223372036854775806) (hp : PredE F caps l p w) :
 Calls Tryz.prog 129 #[.slice A0 l.length c0, .func (.func F) #[] caps] w fun e w' => e = .returned (.int .i64 (firstFrom p 0 l.length)) ∧ Below w.heap.size w w' := by
 have hf := firstAt_firstFrom p l.length
 generalize firstFrom p 0 l.length = r at hf ⊢
 have HF := Lib.hid hf; have HR := Lib.hid hr; have HP := Lib.hid hp; have hB := Below.refl w.heap.size w
 clear hf hr hp
 go_enter Tryz.func129, Tryz.ntmps129
 go_wp2
 go_loopw [8] (fun x u => ∃ k : Nat, k ≤ l.length ∧ x = .int .i64 (k : Int) ∧ Hid (∀ j, j < k → p j = false) ∧ Below w.heap.size w u) (fun x _ => l.length + 1 - (intOf x).toNat)
 case atStart => exact ⟨0, by omega, rfl, Lib.hid (fun j h => by omega), hB⟩
 case round =>
  clear hB
  obtain ⟨k, hk, rfl, HA, hB⟩ := hrel
  by_cases hc : k < l.length
  · have hlt : decide ((k : Int) < (l.length : Int)) = true := by simp; omega
    have hlt2 : decide (k < l.length) = true := by simp; omega
    have hcC := Kd.C_below HR.out hB
    have hcall := HP.out k hc wr hB
    obtain ⟨ad, rfl, h0, h1, h2, h3, h4⟩ := at_T32 hcC (k : Int) (by omega) (by omega)
    simp only [Int.toNat_natCast] at *
    have HCl := Lib.hid hcall
    clear hcall hcC
    generalize rd_T32 l (k : Int) = x at *; obtain ⟨x0, x1, x2, x3, x4⟩ := x; dsimp only at *
    cases hq : p k with
    | true =>
      have hrk := Lib.hid (HF.out.1 k hc HA.out hq)
      rw [hq] at HCl
      have HC2 := Lib.hid HCl.out
      clear HCl HF HP HR HA hq
      go_wp2_with (go_at_fn F; refine (HC2.out).mono ?_; rintro e W' ⟨rfl, hb2⟩; have hB2 := hB.trans (hb2.mono hB.size); clear hb2)
      go_ret
      exact ⟨by rw [hrk.out]; rfl, hB2⟩
    | false =>
      rw [hq] at HCl
      have HC2 := Lib.hid HCl.out
      have HX := Lib.hid (show ∀ j, j < k + 1 → p j = false from fun j hj => by
       by_cases e : j = k
       · rw [e]; exact hq
       · exact HA.out j (by omega))
      clear HCl HF HP HR HA hq
      go_wp2_with (go_at_fn F; refine (HC2.out).mono ?_; rintro e W' ⟨rfl, hb2⟩; have hB2 := hB.trans (hb2.mono hB.size); clear hb2)
      go_roundw
      case rel => exact ⟨k + 1, by omega, by go_num, HX, hB2⟩
      case measure => simp [intOf]; omega
  · have hrk := Lib.hid (HF.out.2 (fun j hj => HA.out j (by omega)))
    have hlt : decide ((k : Int) < (l.length : Int)) = false := by simp; omega
    have hlt2 : decide (k < l.length) = false := by simp; omega
    clear HR HP HF
    go_wp2
    go_ret
    exact ⟨by rw [hrk.out]; rfl, hB⟩
theorem containsE_any (F : Nat) (eg : ∀ args w, (callFunc F args).run Tryz.prog w = .ok (.enter F args) w) (caps : Array Value) (A0 : Option Addr) (c0 : Nat) (l : List S32) (p : Nat → Bool) (w : World) (hr : Kd.C k32 w A0 l.length l) (hl : l.length ≤ 9223372036854775806) (hp : PredE F caps l p w) :
 Calls Tryz.prog 102 #[.slice A0 l.length c0, .func (.func F) #[] caps] w fun e w' => e = .returned (.bool (decide (0 ≤ firstFrom p 0 l.length))) ∧ Below w.heap.size w w' := by
 have HI := Lib.hid (indexE_any F eg caps A0 c0 l p w hr hl hp)
 generalize firstFrom p 0 l.length = r at HI ⊢
 clear hr hp
 go_enter Tryz.func102, Tryz.ntmps102
 go_wp2_with (go_at_call 129; refine Pause'.out ?_)
 constructor
 refine HI.out.mono ?_
 rintro e u ⟨rfl, hB⟩
 go_wp2
 go_ret
 exact ⟨by first | rfl | (simp; done), hB⟩
def PredI (F : Nat) (caps : Array Value) (l : List Int) (p : Nat → Bool) (w : World) : Prop :=
 ∀ k, k < l.length → ∀ W, Below w.heap.size w W → Calls Tryz.prog F (#[.int .i64 (rd l k)] ++ caps) W fun e W' => e = .returned (.bool (p k)) ∧ Below W.heap.size W W'
theorem PredI.up {F : Nat} {caps : Array Value} {l : List Int} {p : Nat → Bool} {w w' : World} (h : PredI F caps l p w) (hb : Below w.heap.size w w') : PredI F caps l p w' := fun k hk W hW => h k hk W (hb.trans (hW.mono hb.size))
theorem indexI_any (F : Nat) (eg : ∀ args w, (callFunc F args).run Tryz.prog w = .ok (.enter F args) w) (caps : Array Value) (A0 : Option Addr) (c0 : Nat) (l : List Int) (p : Nat → Bool) (w : World) (hr : Kd.C (Kd.int .i64) w A0 l.length l) (hl : l.length ≤ 9223372036854775806) (hp : PredI F caps l p w) :
 Calls Tryz.prog 130 #[.slice A0 l.length c0, .func (.func F) #[] caps] w fun e w' => e = .returned (.int .i64 (firstFrom p 0 l.length)) ∧ Below w.heap.size w w' := by
 have hf := firstAt_firstFrom p l.length
 generalize firstFrom p 0 l.length = r at hf ⊢
 have HF := Lib.hid hf; have HR := Lib.hid hr; have HP := Lib.hid hp; have hB := Below.refl w.heap.size w
 clear hf hr hp
 go_enter Tryz.func130, Tryz.ntmps130
 go_wp2
 go_loopw [8] (fun x u => ∃ k : Nat, k ≤ l.length ∧ x = .int .i64 (k : Int) ∧ Hid (∀ j, j < k → p j = false) ∧ Below w.heap.size w u) (fun x _ => l.length + 1 - (intOf x).toNat)
 case atStart => exact ⟨0, by omega, rfl, Lib.hid (fun j h => by omega), hB⟩
 case round =>
  clear hB
  obtain ⟨k, hk, rfl, HA, hB⟩ := hrel
  by_cases hc : k < l.length
  · have hlt : decide ((k : Int) < (l.length : Int)) = true := by simp; omega
    have hlt2 : decide (k < l.length) = true := by simp; omega
    have hcC := Kd.C_below HR.out hB
    have hcall := HP.out k hc wr hB
    obtain ⟨ad, rfl, h0⟩ := Kd.at_int hcC (k : Int) (by omega) (by omega)
    simp only [Int.toNat_natCast] at *
    have HCl := Lib.hid hcall
    clear hcall hcC
    generalize rd l (k : Int) = x at *
    cases hq : p k with
    | true =>
      have hrk := Lib.hid (HF.out.1 k hc HA.out hq)
      rw [hq] at HCl
      have HC2 := Lib.hid HCl.out
      clear HCl HF HP HR HA hq
      go_wp2_with (go_at_fn F; refine (HC2.out).mono ?_; rintro e W' ⟨rfl, hb2⟩; have hB2 := hB.trans (hb2.mono hB.size); clear hb2)
      go_ret
      exact ⟨by rw [hrk.out]; rfl, hB2⟩
    | false =>
      rw [hq] at HCl
      have HC2 := Lib.hid HCl.out
      have HX := Lib.hid (show ∀ j, j < k + 1 → p j = false from fun j hj => by
       by_cases e : j = k
       · rw [e]; exact hq
       · exact HA.out j (by omega))
      clear HCl HF HP HR HA hq
      go_wp2_with (go_at_fn F; refine (HC2.out).mono ?_; rintro e W' ⟨rfl, hb2⟩; have hB2 := hB.trans (hb2.mono hB.size); clear hb2)
      go_roundw
      case rel => exact ⟨k + 1, by omega, by go_num, HX, hB2⟩
      case measure => simp [intOf]; omega
  · have hrk := Lib.hid (HF.out.2 (fun j hj => HA.out j (by omega)))
    have hlt : decide ((k : Int) < (l.length : Int)) = false := by simp; omega
    have hlt2 : decide (k < l.length) = false := by simp; omega
    clear HR HP HF
    go_wp2
    go_ret
    exact ⟨by rw [hrk.out]; rfl, hB⟩
theorem containsI_any (F : Nat) (eg : ∀ args w, (callFunc F args).run Tryz.prog w = .ok (.enter F args) w) (caps : Array Value) (A0 : Option Addr) (c0 : Nat) (l : List Int) (p : Nat → Bool) (w : World) (hr : Kd.C (Kd.int .i64) w A0 l.length l) (hl : l.length ≤ 9223372036854775806) (hp : PredI F caps l p w) :
 Calls Tryz.prog 103 #[.slice A0 l.length c0, .func (.func F) #[] caps] w fun e w' => e = .returned (.bool (decide (0 ≤ firstFrom p 0 l.length))) ∧ Below w.heap.size w w' := by
 have HI := Lib.hid (indexI_any F eg caps A0 c0 l p w hr hl hp)
 generalize firstFrom p 0 l.length = r at HI ⊢
 clear hr hp
 go_enter Tryz.func103, Tryz.ntmps103
 go_wp2_with (go_at_call 130; refine Pause'.out ?_)
 constructor
 refine HI.out.mono ?_
 rintro e u ⟨rfl, hB⟩
 go_wp2
 go_ret
 exact ⟨by first | rfl | (simp; done), hB⟩
def PredS (F : Nat) (caps : Array Value) (l : List ByteArray) (p : Nat → Bool) (w : World) : Prop :=
 ∀ k, k < l.length → ∀ W, Below w.heap.size w W → Calls Tryz.prog F (#[.string (rdOf ByteArray.empty l k)] ++ caps) W fun e W' => e = .returned (.bool (p k)) ∧ Below W.heap.size W W'
theorem PredS.up {F : Nat} {caps : Array Value} {l : List ByteArray} {p : Nat → Bool} {w w' : World} (h : PredS F caps l p w) (hb : Below w.heap.size w w') : PredS F caps l p w' := fun k hk W hW => h k hk W (hb.trans (hW.mono hb.size))
theorem indexS_any (F : Nat) (eg : ∀ args w, (callFunc F args).run Tryz.prog w = .ok (.enter F args) w) (caps : Array Value) (A0 : Option Addr) (c0 : Nat) (l : List ByteArray) (p : Nat → Bool) (w : World) (hr : Kd.C Kd.string w A0 l.length l) (hl : l.length ≤ 9223372036854775806) (hp : PredS F caps l p w) :
 Calls Tryz.prog 99 #[.slice A0 l.length c0, .func (.func F) #[] caps] w fun e w' => e = .returned (.int .i64 (firstFrom p 0 l.length)) ∧ Below w.heap.size w w' := by
 have hf := firstAt_firstFrom p l.length
 generalize firstFrom p 0 l.length = r at hf ⊢
 have HF := Lib.hid hf; have HR := Lib.hid hr; have HP := Lib.hid hp; have hB := Below.refl w.heap.size w
 clear hf hr hp
 go_enter Tryz.func99, Tryz.ntmps99
 go_wp2
 go_loopw [8] (fun x u => ∃ k : Nat, k ≤ l.length ∧ x = .int .i64 (k : Int) ∧ Hid (∀ j, j < k → p j = false) ∧ Below w.heap.size w u) (fun x _ => l.length + 1 - (intOf x).toNat)
 case atStart => exact ⟨0, by omega, rfl, Lib.hid (fun j h => by omega), hB⟩
 case round =>
  clear hB
  obtain ⟨k, hk, rfl, HA, hB⟩ := hrel
  by_cases hc : k < l.length
  · have hlt : decide ((k : Int) < (l.length : Int)) = true := by simp; omega
    have hlt2 : decide (k < l.length) = true := by simp; omega
    have hcC := Kd.C_below HR.out hB
    have hcall := HP.out k hc wr hB
    obtain ⟨ad, rfl, h0⟩ := Kd.at_string hcC (k : Int) (by omega) (by omega)
    simp only [Int.toNat_natCast] at *
    have HCl := Lib.hid hcall
    clear hcall hcC
    generalize rdOf ByteArray.empty l (k : Int) = x at *
    cases hq : p k with
    | true =>
      have hrk := Lib.hid (HF.out.1 k hc HA.out hq)
      rw [hq] at HCl
      have HC2 := Lib.hid HCl.out
      clear HCl HF HP HR HA hq
      go_wp2_with (go_at_fn F; refine (HC2.out).mono ?_; rintro e W' ⟨rfl, hb2⟩; have hB2 := hB.trans (hb2.mono hB.size); clear hb2)
      go_ret
      exact ⟨by rw [hrk.out]; rfl, hB2⟩
    | false =>
      rw [hq] at HCl
      have HC2 := Lib.hid HCl.out
      have HX := Lib.hid (show ∀ j, j < k + 1 → p j = false from fun j hj => by
       by_cases e : j = k
       · rw [e]; exact hq
       · exact HA.out j (by omega))
      clear HCl HF HP HR HA hq
      go_wp2_with (go_at_fn F; refine (HC2.out).mono ?_; rintro e W' ⟨rfl, hb2⟩; have hB2 := hB.trans (hb2.mono hB.size); clear hb2)
      go_roundw
      case rel => exact ⟨k + 1, by omega, by go_num, HX, hB2⟩
      case measure => simp [intOf]; omega
  · have hrk := Lib.hid (HF.out.2 (fun j hj => HA.out j (by omega)))
    have hlt : decide ((k : Int) < (l.length : Int)) = false := by simp; omega
    have hlt2 : decide (k < l.length) = false := by simp; omega
    clear HR HP HF
    go_wp2
    go_ret
    exact ⟨by rw [hrk.out]; rfl, hB⟩
theorem containsS_any (F : Nat) (eg : ∀ args w, (callFunc F args).run Tryz.prog w = .ok (.enter F args) w) (caps : Array Value) (A0 : Option Addr) (c0 : Nat) (l : List ByteArray) (p : Nat → Bool) (w : World) (hr : Kd.C Kd.string w A0 l.length l) (hl : l.length ≤ 9223372036854775806) (hp : PredS F caps l p w) :
 Calls Tryz.prog 67 #[.slice A0 l.length c0, .func (.func F) #[] caps] w fun e w' => e = .returned (.bool (decide (0 ≤ firstFrom p 0 l.length))) ∧ Below w.heap.size w w' := by
 have HI := Lib.hid (indexS_any F eg caps A0 c0 l p w hr hl hp)
 generalize firstFrom p 0 l.length = r at HI ⊢
 clear hr hp
 go_enter Tryz.func67, Tryz.ntmps67
 go_wp2_with (go_at_call 99; refine Pause'.out ?_)
 constructor
 refine HI.out.mono ?_
 rintro e u ⟨rfl, hB⟩
 go_wp2
 go_ret
 exact ⟨by first | rfl | (simp; done), hB⟩
end Go.Proofs.YtjlpjpjodhkpdaaGreatDoor
