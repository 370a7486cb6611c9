/- event.Bytes at any event. -/
import Derived.Test.YtjlpjpjodhkpdaaGreatDoorCmM
set_option maxHeartbeats 8000000
set_option maxRecDepth 100000
set_option linter.unusedVariables false
set_option linter.unusedSimpArgs false
namespace Go.Proofs.YtjlpjpjodhkpdaaGreatDoor
open Go.RowKit Go.Proofs.YtjlpjpjodhkpdaaGreatDoor.Q Go.Proofs.YtjlpjpjodhkpdaaGreatDoorW.PrintWords
theorem ba_nil0 {a : ByteArray} (h : a.size = 0) : a = ⟨#[]⟩ := by
 cases a with | mk d => congr; exact Array.eq_empty_of_size_eq_zero h
theorem ba_list_nil0 (a : ByteArray) : (a.toList == []) = decide (a.size = 0) := by
 have h := ba_list a ⟨#[]⟩
 have e : (⟨#[]⟩ : ByteArray).toList = [] := by rw [ByteArray.toList_eq]
 rw [e] at h
 rw [h]
 by_cases h0 : a.size = 0
 · rw [ba_nil0 h0]; rfl
 · rw [decide_eq_false h0, decide_eq_false]
   rintro rfl
   exact h0 rfl
def evOk (e : Evn) : Prop := 1 ≤ e.f0 ∧ e.f0 ≤ 5 ∧ 1 ≤ e.f1 ∧ e.f1 ≤ 32 ∧ (((e.f0 = 2 ∨ e.f0 = 3) ∧ 1 ≤ e.f2.size ∧ e.f2.size ≤ 32 ∧ e.f3.size ≤ 32 ∧ (e.f0 = 2 ∨ e.f3.size ≠ 0)) ∨ (e.f0 ≠ 2 ∧ e.f0 ≠ 3 ∧ e.f2.size = 0 ∧ e.f3.size = 0))
instance (e : Evn) : Decidable (evOk e) := by unfold evOk; infer_instance
theorem may_j1 (a b : Int) (c d : ByteArray) (x : Bool) : event_May.j1 8 x a b c d a b ⟨#[]⟩ ⟨#[]⟩ = some (!x && decide (((a = 2 ∨ a = 3) ∧ 1 ≤ c.size ∧ c.size ≤ 32 ∧ d.size ≤ 32 ∧ (a = 2 ∨ d.size ≠ 0)) ∨ (a ≠ 2 ∧ a ≠ 3 ∧ c.size = 0 ∧ d.size = 0))) := by
 have en : (⟨#[]⟩ : ByteArray).toList = [] := by rw [ByteArray.toList_eq]
 simp only [event_May.j1, event_keyed.f, en, ba_list_nil0, bne]
 cases x
 · simp only [Bool.false_eq_true, if_false, Bool.not_false, Bool.true_and]
   by_cases h2 : a = 2
   · subst h2
     simp only [if_true, Option.bind_some]
     by_cases q1 : 1 ≤ c.size
     · by_cases q2 : c.size ≤ 32
       · by_cases q3 : d.size ≤ 32
         · rw [if_pos (by first | omega | (simp; omega) | (simp [*]; done)), if_pos (by first | omega | (simp; omega) | (simp [*]; done)), if_pos (by first | omega | (simp; omega) | (simp [*]; done)), decide_eq_true (by first | omega | (simp; omega) | (simp [*]; done))]
         · rw [if_pos (by first | omega | (simp; omega) | (simp [*]; done)), if_pos (by first | omega | (simp; omega) | (simp [*]; done)), if_neg (by first | omega | (simp; omega) | (simp [*]; done)), decide_eq_false (by first | omega | (simp; omega) | (simp [*]; done))]
       · rw [if_pos (by first | omega | (simp; omega) | (simp [*]; done)), if_neg (by first | omega | (simp; omega) | (simp [*]; done)), decide_eq_false (by first | omega | (simp; omega) | (simp [*]; done))]
     · rw [if_neg (by first | omega | (simp; omega) | (simp [*]; done)), decide_eq_false (by first | omega | (simp; omega) | (simp [*]; done))]
   · rw [if_neg h2]
     simp only [Option.bind_some]
     by_cases h3 : a = 3
     · subst h3
       simp only [beq_self_eq_true, if_true]
       by_cases q1 : 1 ≤ c.size
       · by_cases q2 : c.size ≤ 32
         · by_cases q3 : d.size ≤ 32
           · rw [if_pos (by first | omega | (simp; omega) | (simp [*]; done)), if_pos (by first | omega | (simp; omega) | (simp [*]; done)), if_pos (by first | omega | (simp; omega) | (simp [*]; done)), if_neg (by first | omega | (simp; omega) | (simp [*]; done))]
             by_cases q4 : d.size = 0
             · rw [decide_eq_true q4, decide_eq_false (by first | omega | (simp; omega) | (simp [*]; done))]; rfl
             · rw [decide_eq_false q4, decide_eq_true (by first | omega | (simp; omega) | (simp [*]; done))]; rfl
           · rw [if_pos (by first | omega | (simp; omega) | (simp [*]; done)), if_pos (by first | omega | (simp; omega) | (simp [*]; done)), if_neg (by first | omega | (simp; omega) | (simp [*]; done)), decide_eq_false (by first | omega | (simp; omega) | (simp [*]; done))]
         · rw [if_pos (by first | omega | (simp; omega) | (simp [*]; done)), if_neg (by first | omega | (simp; omega) | (simp [*]; done)), decide_eq_false (by first | omega | (simp; omega) | (simp [*]; done))]
       · rw [if_neg (by first | omega | (simp; omega) | (simp [*]; done)), decide_eq_false (by first | omega | (simp; omega) | (simp [*]; done))]
     · have hb : (a == 3) = false := beq_eq_false_iff_ne.mpr h3
       simp only [hb, Bool.false_eq_true, if_false, beq_self_eq_true, Bool.true_and]
       congr 1
       by_cases hc : c.size = 0
       · by_cases hd : d.size = 0
         · rw [decide_eq_true hc, decide_eq_true hd, decide_eq_true (by first | omega | (simp; omega) | (simp [*]; done))]; rfl
         · rw [decide_eq_true hc, decide_eq_false hd, decide_eq_false (by first | omega | (simp; omega) | (simp [*]; done))]; rfl
       · have e2 : (decide (c.size = 0) && decide (d.size = 0)) = false := by rw [decide_eq_false hc]; rfl
         rw [e2, decide_eq_false (by first | omega | (simp; omega) | (simp [*]; done))]
 · simp
theorem evB_eq (e : Evn) : evB e = decide (evOk e) := by
 have h := ev_val e
 obtain ⟨a, b, c, d⟩ := e
 unfold event_May.f at h
 simp only [event_May.j0, may_j1] at h
 generalize evB ⟨a, b, c, d⟩ = r at h ⊢
 by_cases h1 : a < 1
 · rw [if_pos h1] at h
   simp at h
   rw [h, decide_eq_false (by unfold evOk; dsimp only; omega)]
 · rw [if_neg h1] at h
   by_cases h5 : a > 5
   · rw [decide_eq_true h5] at h
     simp at h
     rw [h, decide_eq_false (by unfold evOk; dsimp only; omega)]
   · rw [decide_eq_false h5] at h
     simp only [Bool.false_eq_true, if_false] at h
     by_cases h2 : b < 1
     · rw [if_pos h2] at h
       simp at h
       rw [h, decide_eq_false (by unfold evOk; dsimp only; omega)]
     · rw [if_neg h2] at h
       by_cases h3 : b > 32
       · rw [decide_eq_true h3] at h
         simp at h
         rw [h, decide_eq_false (by unfold evOk; dsimp only; omega)]
       · rw [decide_eq_false h3] at h
         simp only [Bool.not_false, Bool.true_and] at h
         injection h with h
         rw [← h]
         apply decide_eq_decide.mpr
         unfold evOk
         dsimp only
         omega
def lumpB (t : ByteArray) : ByteArray := strOfNums [(t.size : Int) % 256] ++ t
theorem lump_val (t : ByteArray) (h : t.size ≤ 250) : lump_Text.f t = some (lumpB t, 0) := by
 unfold lump_Text.f lump_length.f lumpB
 rw [if_neg (show ¬ (t.size : Int) > 65535 by omega), if_pos (show (t.size : Int) ≤ 250 by omega), Option.bind_some, if_pos]
 rw [strOfNums_size]
 simp; omega
theorem lumpB_size (t : ByteArray) : (lumpB t).size = t.size + 1 := by
 unfold lumpB
 rw [ByteArray.size_append, strOfNums_size]
 simp; omega
theorem put_any (t s : ByteArray) (ht : t.size ≤ 250) (hs : s.size ≤ 1000) (B : Nat) (w : World) (hr : RowIs w B 9 [.string s]) :
 Calls Tryz.prog 72 #[.string t, .pointer (some ⟨B, 0, none⟩)] w fun e w' => e = .returned (.tuple #[]) ∧ RowIs w' B 9 [.string (s ++ lumpB t)] ∧ ∀ D u, D ≤ B → Below D u w → Below D u w' := by
 have HL := Lib.hid (fun u => lump_Text.calls t _ _ u (lump_val t ht))
 have HR := Lib.hid hr
 have c1 : s.size + (lumpB t).size ≤ 9223372036854775807 := by rw [lumpB_size]; omega
 have c2 := eq_true c1
 have c3 : (9223372036854775807 < s.size + (lumpB t).size) = False := eq_false (Nat.not_lt.2 c1)
 generalize lumpB t = b at *
 have hB := hr.lt
 clear hr c1
 go_enter Tryz.func72, Tryz.ntmps72
 go_wp2_with (go_at_call 73; (refine (HL.out _).mono ?_); rintro e w1 ⟨rfl, hb⟩; have hx := HR.out.below hb; have HX := Lib.hid hx; have HBB := Lib.hid hb; have x0 := hx.cell (i := 0) rfl; have f0 := hx.frozen 0; clear hb hx)
 go_end0
 exact ⟨rfl, HX.out.set 0 _, fun D u hD hb => (hb.trans (HBB.out.mono (Nat.le_trans hD (Nat.le_of_lt hB)))).setCell hD _⟩
def evHead (e : Evn) : ByteArray := strOfNums [e.f0 % 256, e.f1 % 256]
def evBytes (e : Evn) : ByteArray := if e.f0 = 2 ∨ e.f0 = 3 then (evHead e ++ lumpB e.f2) ++ lumpB e.f3 else evHead e
theorem own_two (W : World) (a b : Value) (t : Nat) : (W.alloc (.cells #[a, b] t)).ownsRow W.heap.size t 1 (.slice (some ⟨W.heap.size, 0, none⟩) 2 2) 2 [a, b] :=
 ⟨by simp, .inr ⟨W.heap.size, 2, #[a, b], rfl, Nat.le_refl _, heap_alloc_new W _, Nat.le_refl _, by unfold maxLen; omega, by simp, by simp⟩⟩
theorem conv_two (W : World) (a b : Int) : (convert 90 9 (.slice (some ⟨W.heap.size, 0, none⟩) 2 2)).run Tryz.prog (W.alloc (.cells #[.int .u8 a, .int .u8 b] 5)) = .ok (.string (strOfNums [a, b])) (W.alloc (.cells #[.int .u8 a, .int .u8 b] 5)) :=
 own_string (P := Tryz.prog) Tryz.underlying90 Tryz.underlying5 Tryz.underlying9 (own_two W (.int .u8 a) (.int .u8 b) 5)
theorem evBytes_any (e0 e1 : Int) (e2 e3 : ByteArray) (w : World) :
 Calls Tryz.prog 33 #[.agg #[.int .i64 e0, .int .i64 e1, .string e2, .string e3]] w fun e w' => e = .returned (.tuple #[.string (if evB ⟨e0, e1, e2, e3⟩ then evBytes ⟨e0, e1, e2, e3⟩ else ⟨#[]⟩), .int .i64 (if evB ⟨e0, e1, e2, e3⟩ then 0 else 1)]) ∧ Below w.heap.size w w' := by
 have HE := Lib.hid (fun u => ev_any e0 e1 e2 e3 u)
 have hq := evB_eq ⟨e0, e1, e2, e3⟩
 generalize evB ⟨e0, e1, e2, e3⟩ = b at *
 have HB1 := Lib.hid (below_alloc (Below.refl w.heap.size w) (.cells #[.int .i64 e0, .int .i64 e1, .string e2, .string e3] 53))
 have HX1 := Lib.hid (RowIs.new w 53 [.int .i64 e0, .int .i64 e1, .string e2, .string e3])
 cases b
 · clear hq
   go_enter Tryz.func33, Tryz.ntmps33
   go_wp2_with (go_at_call 66; (refine (HE.out _).mono ?_); rintro e w1 ⟨rfl, hb⟩; have HB2 := Lib.hid (below_step HB1.out hb); clear hb)
   go_ret2
   exact ⟨rfl, HB2.out⟩
 · have hok : evOk ⟨e0, e1, e2, e3⟩ := of_decide_eq_true hq.symm
   unfold evOk at hok
   have hs2 : e2.size ≤ 250 := by have := hok.2.2.2.2; dsimp only at this; omega
   have hs3 : e3.size ≤ 250 := by have := hok.2.2.2.2; dsimp only at this; omega
   clear hok hq
   simp only [if_true]
   by_cases hk : e0 = 2 ∨ e0 = 3
   · have ev : evBytes ⟨e0, e1, e2, e3⟩ = (strOfNums [e0 % 256, e1 % 256] ++ lumpB e2) ++ lumpB e3 := by unfold evBytes evHead; rw [if_pos hk]
     rw [ev]
     have hkf : event_keyed.f e0 = some true := by
      unfold event_keyed.f
      rcases hk with rfl | rfl
      · rfl
      · rfl
     have HK := Lib.hid (fun u => event_keyed.calls e0 true u hkf)
     have hz0 : (strOfNums [e0 % 256, e1 % 256]).size ≤ 1000 := by rw [strOfNums_size]; simp
     have hz1 : (strOfNums [e0 % 256, e1 % 256] ++ lumpB e2).size ≤ 1000 := by rw [ByteArray.size_append, strOfNums_size, lumpB_size]; simp; omega
     have HP1 := Lib.hid (fun B u h => put_any e2 (strOfNums [e0 % 256, e1 % 256]) hs2 hz0 B u h)
     have HP2 := Lib.hid (fun B u h => put_any e3 (strOfNums [e0 % 256, e1 % 256] ++ lumpB e2) hs3 hz1 B u h)
     have HC := Lib.hid (fun u => conv_two u (e0 % 256) (e1 % 256))
     generalize strOfNums [e0 % 256, e1 % 256] = s0 at *
     generalize lumpB e2 = b2 at *
     generalize lumpB e3 = b3 at *
     clear ev hkf hk hz0 hz1 hs2 hs3
     go_enter Tryz.func33, Tryz.ntmps33
     go_wp2_with (first
      | (go_at_call 66; (refine (HE.out _).mono ?_); rintro e w1 ⟨rfl, hb⟩; have HB2 := Lib.hid (below_step HB1.out hb); have hx := HX1.out.below hb; have HX2 := Lib.hid hx; have x0 := hx.cell (i := 0) rfl; have x1 := hx.cell (i := 1) rfl; have x2 := hx.cell (i := 2) rfl; have hz := hx.lt; have hcv := HC.out w1; have HS2 := Lib.hid (show RowIs ((w1.alloc (.cells #[.int .u8 (e0 % 256), .int .u8 (e1 % 256)] 5)).alloc (.cells #[.string s0] 9)) (w1.heap.size + 1) 9 [.string s0] from (by have h := RowIs.new (w1.alloc (.cells #[.int .u8 (e0 % 256), .int .u8 (e1 % 256)] 5)) 9 [.string s0]; rw [World.size_alloc] at h; exact h)); have HB3 := Lib.hid (below_alloc (below_alloc (Below.refl w1.heap.size w1) (.cells #[.int .u8 (e0 % 256), .int .u8 (e1 % 256)] 5)) (.cells #[.string s0] 9)); clear hb hx)
      | (go_at_call 74; (refine (HK.out _).mono ?_); rintro e w2 ⟨rfl, ⟨nd, rfl⟩⟩)
      | (go_at_call 72; first | ((with_reducible refine (HP1.out (w1.heap.size + 1) _ (HS2.out.drewN nd)).mono ?_); rintro e w3 ⟨rfl, hr3, hb3⟩; have HR3 := Lib.hid hr3; have HB4 := Lib.hid (hb3 w1.heap.size w1 (Nat.le_succ _) (pw_below_drewN HB3.out nd)); have x3 := (HX2.out.below HB4.out).cell (i := 3) rfl; clear hr3 hb3 hcv) | ((with_reducible refine (HP2.out (w1.heap.size + 1) _ HR3.out).mono ?_); rintro e w4 ⟨rfl, hr4, hb4⟩; have HB5 := Lib.hid (hb4 w1.heap.size w1 (Nat.le_succ _) HB4.out); have y0 := hr4.cell (i := 0) rfl; clear hr4 hb4)))
     go_ret2
     exact ⟨rfl, below_step HB2.out HB5.out⟩
   · have ev : evBytes ⟨e0, e1, e2, e3⟩ = strOfNums [e0 % 256, e1 % 256] := by unfold evBytes evHead; rw [if_neg hk]
     rw [ev]
     have hkf : event_keyed.f e0 = some false := by
      unfold event_keyed.f
      rw [if_neg (by omega)]
      congr 1
      exact beq_eq_false_iff_ne.mpr (by omega)
     have HK := Lib.hid (fun u => event_keyed.calls e0 false u hkf)
     have HC := Lib.hid (fun u => conv_two u (e0 % 256) (e1 % 256))
     generalize strOfNums [e0 % 256, e1 % 256] = s0 at *
     clear ev hkf hk hs2 hs3
     go_enter Tryz.func33, Tryz.ntmps33
     go_wp2_with (first
      | (go_at_call 66; (refine (HE.out _).mono ?_); rintro e w1 ⟨rfl, hb⟩; have HB2 := Lib.hid (below_step HB1.out hb); have hx := HX1.out.below hb; have HX2 := Lib.hid hx; have x0 := hx.cell (i := 0) rfl; have x1 := hx.cell (i := 1) rfl; have x2 := hx.cell (i := 2) rfl; have hz := hx.lt; have hcv := HC.out w1; have HS2 := Lib.hid (show RowIs ((w1.alloc (.cells #[.int .u8 (e0 % 256), .int .u8 (e1 % 256)] 5)).alloc (.cells #[.string s0] 9)) (w1.heap.size + 1) 9 [.string s0] from (by have h := RowIs.new (w1.alloc (.cells #[.int .u8 (e0 % 256), .int .u8 (e1 % 256)] 5)) 9 [.string s0]; rw [World.size_alloc] at h; exact h)); have HB3 := Lib.hid (below_alloc (below_alloc (Below.refl w1.heap.size w1) (.cells #[.int .u8 (e0 % 256), .int .u8 (e1 % 256)] 5)) (.cells #[.string s0] 9)); clear hb hx)
      | (go_at_call 74; (refine (HK.out _).mono ?_); rintro e w2 ⟨rfl, ⟨nd, rfl⟩⟩))
     go_ret2
     exact ⟨rfl, below_step HB2.out (pw_below_drewN HB3.out _)⟩
end Go.Proofs.YtjlpjpjodhkpdaaGreatDoor
