/- cartoucheref06.May and Bytes, in plain words; an event's bytes tell it. -/
import Derived.Test.YtjlpjpjodhkpdaaGreatDoorEb
import Derived.Test.YtjlpjpjodhkpdaaGreatDoorQA
import Derived.Test.YtjlpjpjodhkpdaaGreatDoorRcM
import Derived.Test.YtjlpjpjodhkpdaaGreatDoorCm4
set_option linter.unusedVariables false
set_option linter.unusedSimpArgs false
set_option maxHeartbeats 16000000
set_option maxRecDepth 100000
namespace Go.Proofs.YtjlpjpjodhkpdaaGreatDoor
open Go.RowKit Go.Proofs.YtjlpjpjodhkpdaaGreatDoor.Q Go.Proofs.YtjlpjpjodhkpdaaGreatDoorW.PrintWords
theorem rmay_some (a b : Int) (s t : ByteArray) : ∃ r, cartoucheref06_May.f 9 a b s t = some r := by
 unfold cartoucheref06_May.f
 have h1 : ∀ x, ∃ r, cartoucheref06_May.j1 8 x a b s t = some r := fun x => by
  simp only [cartoucheref06_May.j1]
  repeat' split
  all_goals exact ⟨_, rfl⟩
 have h0 : ∀ x, ∃ r, cartoucheref06_May.j0 9 x a b s t = some r := fun x => by
  simp only [cartoucheref06_May.j0]
  repeat' split
  all_goals first | exact h1 _ | exact ⟨_, rfl⟩
 repeat' split
 all_goals exact h0 _
theorem rmay_ok (e : Evn) (h : evOk e) : cartoucheref06_May.f 9 e.f0 e.f1 e.f2 e.f3 = some true := by
 obtain ⟨a, b, s, t⟩ := e
 unfold evOk at h
 dsimp only at h ⊢
 obtain ⟨h1, h2, h3, h4, h5⟩ := h
 unfold cartoucheref06_May.f
 rw [if_neg (by omega), if_neg (by omega), if_neg (by omega), decide_eq_false (show ¬ b > 32 by omega)]
 simp only [cartoucheref06_May.j0, Bool.false_eq_true, if_false]
 have en : (⟨#[]⟩ : ByteArray).toList = [] := by rw [ByteArray.toList_eq]
 rcases h5 with ⟨h5, h6, h7, h8, h9⟩ | ⟨h5, h6, h7, h8⟩
 · have hx : ∀ x, x = false → cartoucheref06_May.j1 8 x a b s t = some true := fun x hx => by
    subst hx
    simp only [cartoucheref06_May.j1, Bool.false_eq_true, if_false]
    rw [if_neg (by omega), if_neg (by omega), if_neg (by omega)]
    by_cases h2 : a = 2
    · rw [if_pos h2]
    · rw [if_neg h2, decide_eq_true (by have := h9.resolve_left h2; omega)]
   by_cases h2 : a = 2
   · rw [if_pos h2]; exact hx _ rfl
   · rw [if_neg h2]; exact hx _ (by have := h5.resolve_left h2; simp [this])
 · rw [if_neg h5, show (a != 3) = true by simpa using h6]
   simp only [cartoucheref06_May.j1, if_true]
   rw [ba_nil0 h7, ba_nil0 h8, en, if_pos rfl]
   rfl
theorem rtext_f (t : ByteArray) (h : t.size ≤ 250) : cartoucheref01_Text.f t = some (lumpB t, 0) := by
 unfold cartoucheref01_Text.f cartoucheref01_size.f lumpB
 rw [if_neg (show ¬ (t.size : Int) > 65535 by omega), if_pos (show (t.size : Int) ≤ 250 by omega), Option.bind_some, if_pos]
 rw [strOfNums_size]
 simp; omega
theorem rbytes_ok (e : Evn) (h : evOk e) : cartoucheref06_Bytes.f 9 e.f0 e.f1 e.f2 e.f3 = some (evBytes e, 0) := by
 have hm := rmay_ok e h
 obtain ⟨a, b, s, t⟩ := e
 unfold evOk at h
 unfold evBytes evHead
 dsimp only at h hm ⊢
 obtain ⟨h1, h2, h3, h4, h5⟩ := h
 unfold cartoucheref06_Bytes.f
 rw [hm, Option.bind_some, if_pos rfl, Option.bind_some]
 rcases h5 with ⟨h5, h6, h7, h8, h9⟩ | ⟨h5, h6, h7, h8⟩
 · rw [if_pos h5]
   have hx : ∀ x, x = true → cartoucheref06_Bytes.j0 9 (strOfNums [a % 256, b % 256]) x a b s t = some ((strOfNums [a % 256, b % 256] ++ lumpB s) ++ lumpB t, 0) := fun x hx => by
    subst hx
    simp only [cartoucheref06_Bytes.j0, if_true]
    rw [rtext_f s (by omega), rtext_f t (by omega)]
    simp only [Option.bind_some]
    rw [if_pos (by rw [strOfNums_size, lumpB_size]; simp; omega), if_pos (by rw [ByteArray.size_append, strOfNums_size, lumpB_size, lumpB_size]; simp; omega)]
   by_cases h2 : a = 2
   · rw [if_pos h2]; exact hx _ rfl
   · rw [if_neg h2]; exact hx _ (by have := h5.resolve_left h2; simp [this])
 · rw [if_neg h5, if_neg (fun h => h.elim h5 h6), show (a == 3) = false by simpa using h6]
   simp only [cartoucheref06_Bytes.j0, Bool.false_eq_true, if_false]
theorem rplace_any (x : Int) (w : World) : Calls Tryz.prog 77 #[.int .i64 x] w fun e w' => e = .returned (.bool (placeB x)) ∧ Drawn0 w w' := by
 unfold placeB
 by_cases h0 : 0 ≤ x
 · by_cases h1 : x ≤ 255
   · rw [decide_eq_true (by omega)]
     go_enter Tryz.func77, Tryz.ntmps77
     go_wp2
     go_ret
     exact ⟨by first | rfl | (simp; done) | (simp [*]; done), by repeat (first | exact Drawn0.refl _ | apply Drawn0.step)⟩
   · rw [decide_eq_false (by omega)]
     go_enter Tryz.func77, Tryz.ntmps77
     go_wp2
     go_ret
     exact ⟨by first | rfl | (simp; done) | (simp [*]; done) | (simp; omega), by repeat (first | exact Drawn0.refl _ | apply Drawn0.step)⟩
 · rw [decide_eq_false (by omega)]
   go_enter Tryz.func77, Tryz.ntmps77
   go_wp2
   go_ret
   exact ⟨by first | rfl | (simp; done) | (simp [*]; done) | (simp; omega), by repeat (first | exact Drawn0.refl _ | apply Drawn0.step)⟩
theorem rtxn_any (x : Int) (w : World) : Calls Tryz.prog 78 #[.int .i64 x] w fun e w' => e = .returned (.bool (txnB x)) ∧ Drawn0 w w' := by
 unfold txnB
 by_cases h0 : 1 ≤ x
 · by_cases h1 : x ≤ 32
   · rw [decide_eq_true (by omega)]
     go_enter Tryz.func78, Tryz.ntmps78
     go_wp2
     go_ret
     exact ⟨by first | rfl | (simp; done) | (simp [*]; done), by repeat (first | exact Drawn0.refl _ | apply Drawn0.step)⟩
   · rw [decide_eq_false (by omega)]
     go_enter Tryz.func78, Tryz.ntmps78
     go_wp2
     go_ret
     exact ⟨by first | rfl | (simp; done) | (simp [*]; done) | (simp; omega), by repeat (first | exact Drawn0.refl _ | apply Drawn0.step)⟩
 · rw [decide_eq_false (by omega)]
   go_enter Tryz.func78, Tryz.ntmps78
   go_wp2
   go_ret
   exact ⟨by first | rfl | (simp; done) | (simp [*]; done) | (simp; omega), by repeat (first | exact Drawn0.refl _ | apply Drawn0.step)⟩
def InM (cs vs : List Value) (w u : World) : Prop := RowIs u w.heap.size 30 cs ∧ RowIs u (w.heap.size + 1) 27 vs ∧ Below w.heap.size w u
theorem InM.below {cs vs : List Value} {w u v : World} (h : InM cs vs w u) (hb : Below u.heap.size u v) : InM cs vs w v := ⟨h.1.below hb, h.2.1.below hb, below_step h.2.2 hb⟩
theorem InM.drewN {cs vs : List Value} {w u : World} (h : InM cs vs w u) (n : Nat) : InM cs vs w (u.drewN n) := ⟨h.1.drewN n, h.2.1.drewN n, pw_below_drewN h.2.2 n⟩
theorem rmay_val (e : Evn) : cartoucheref06_May.f 9 e.f0 e.f1 e.f2 e.f3 = some (evB e) := by
 rw [evB_eq]
 by_cases h : evOk e
 · rw [decide_eq_true h]; exact rmay_ok e h
 rw [decide_eq_false h]
 obtain ⟨r, hr⟩ := rmay_some e.f0 e.f1 e.f2 e.f3
 cases r with
 | false => exact hr
 | true =>
   refine absurd ?_ h
   obtain ⟨a, b, s, t⟩ := e
   unfold evOk
   unfold cartoucheref06_May.f at hr
   dsimp only at hr ⊢
   simp only [cartoucheref06_May.j0, cartoucheref06_May.j1] at hr
   have hn : ∀ x : ByteArray, x.toList = ([] : List UInt8) ↔ x.size = 0 := fun x => by have := ba_list_nil0 x; constructor <;> intro h <;> simp_all
   simp only [hn, ba_list_nil0, if_true, Bool.false_eq_true, if_false, bne_iff_ne, ne_eq] at hr
   repeat' split at hr
   all_goals first | (simp at hr; done) | contradiction | (simp only [Option.some.injEq, decide_eq_true_eq] at hr ⊢; simp only [decide_eq_true_eq] at *; omega)
theorem rev_any (e0 e1 : Int) (e2 e3 : ByteArray) (w : World) : Calls Tryz.prog 29 #[.agg #[.int .i64 e0, .int .i64 e1, .string e2, .string e3]] w fun e w' => e = .returned (.bool (evB ⟨e0, e1, e2, e3⟩)) ∧ Below w.heap.size w w' :=
 cartoucheref06_May.calls 9 _ _ _ _ _ w (rmay_val ⟨e0, e1, e2, e3⟩)
theorem all_rd {α : Type} (l : List α) (d : α) (q : α → Bool) : l.all q = true ↔ ∀ k, k < l.length → q (l.getD k d) = true := by
 rw [List.all_eq_true]
 constructor
 · intro h k hk
   refine h _ ?_
   rw [List.getD_eq_getElem?_getD, List.getElem?_eq_getElem hk, Option.getD_some]
   exact List.getElem_mem hk
 · intro h x hx
   obtain ⟨k, hk, rfl⟩ := List.mem_iff_getElem.1 hx
   have := h k hk
   rwa [List.getD_eq_getElem?_getD, List.getElem?_eq_getElem hk, Option.getD_some] at this
theorem certB_iff (c : CertD) : certB c = true ↔ (1 ≤ c.tenant.size ∧ c.tenant.size ≤ 16 ∧ 1 ≤ c.seq ∧ c.seq ≤ 1048576) ∧ (c.prev.size = 0 ∨ c.prev.size = 32) ∧ c.root.size = 32 ∧ (0 ≤ c.count ∧ c.count ≤ 256) ∧ (1 ≤ c.level ∧ c.level ≤ 2 ∧ c.order.length ≤ 32 ∧ 0 ≤ c.bk ∧ c.bk ≤ 4) ∧ placeB c.bi = true ∧ placeB c.bj = true ∧ c.ring.length ≤ 128 ∧ c.proofs.length ≤ 256 ∧
 (∀ k : Nat, k < c.order.length → txnB (rd c.order (k : Int)) = true) ∧ (∀ k : Nat, k < c.ring.length → edgeB (rd_T32 c.ring (k : Int)) = true) ∧ ∀ k : Nat, k < c.proofs.length → prfB (rd_T55 c.proofs (k : Int)) = true := by
 unfold certB headB verB
 simp only [Bool.and_eq_true, decide_eq_true_eq]
 rw [all_rd c.order 0, all_rd c.ring z32, all_rd c.proofs z55]
 have e1 : ∀ k : Nat, rd c.order (k : Int) = c.order.getD k 0 := fun k => by unfold rd; rw [Int.toNat_natCast]
 have e2 : ∀ k : Nat, rd_T32 c.ring (k : Int) = c.ring.getD k z32 := fun k => by unfold rd_T32; rw [Int.toNat_natCast]
 have e3 : ∀ k : Nat, rd_T55 c.proofs (k : Int) = c.proofs.getD k z55 := fun k => by rw [rdT_nat]
 simp only [e1, e2, e3]
 constructor
 · rintro ⟨⟨h1, h2, h3, h4⟩, ⟨h5, h6, h7, h8, h9, h10⟩, h11, h12⟩; exact ⟨h1, h2, h3, h4, h5, h6, h7, h8, h11, h10, h9, h12⟩
 · rintro ⟨h1, h2, h3, h4, h5, h6, h7, h8, h11, h10, h9, h12⟩; exact ⟨⟨h1, h2, h3, h4⟩, ⟨h5, h6, h7, h8, h9, h10⟩, h11, h12⟩
end Go.Proofs.YtjlpjpjodhkpdaaGreatDoor
