/- cartoucheref06.May and Bytes, in plain words; an event's bytes tell it. -/
import Derived.Test.YtjlpjpjodhkpdaaGreatDoorEb
import Derived.Test.YtjlpjpjodhkpdaaGreatDoorQA
import Derived.Test.YtjlpjpjodhkpdaaGreatDoorRl
set_option linter.unusedVariables false
set_option linter.unusedSimpArgs false
namespace Go.Proofs.YtjlpjpjodhkpdaaGreatDoor
open Go.RowKit Go.Proofs.YtjlpjpjodhkpdaaGreatDoor.Q Go.Proofs.YtjlpjpjodhkpdaaGreatDoorW.PrintWords
theorem rmay_some (a b : Int) (s t : ByteArray) : ∃ r, cartoucheref06_May.f 9 a b s t = some r := by
 unfold cartoucheref06_May.f
 have h1 : ∀ x, ∃ r, cartoucheref06_May.j1 8 x a b s t = some r := fun x => by
  simp only [cartoucheref06_May.j1]
  repeat' split
  all_goals exact ⟨_, rfl⟩
 have h0 : ∀ x, ∃ r, cartoucheref06_May.j0 9 x a b s t = some r := fun x => by
  simp only [cartoucheref06_May.j0]
  repeat' split
  all_goals first | exact h1 _ | exact ⟨_, rfl⟩
 repeat' split
 all_goals exact h0 _
theorem rmay_ok (e : Evn) (h : evOk e) : cartoucheref06_May.f 9 e.f0 e.f1 e.f2 e.f3 = some true := by
 obtain ⟨a, b, s, t⟩ := e
 unfold evOk at h
 dsimp only at h ⊢
 obtain ⟨h1, h2, h3, h4, h5⟩ := h
 unfold cartoucheref06_May.f
 rw [if_neg (by omega), if_neg (by omega), if_neg (by omega), decide_eq_false (show ¬ b > 32 by omega)]
 simp only [cartoucheref06_May.j0, Bool.false_eq_true, if_false]
 have en : (⟨#[]⟩ : ByteArray).toList = [] := by rw [ByteArray.toList_eq]
 rcases h5 with ⟨h5, h6, h7, h8, h9⟩ | ⟨h5, h6, h7, h8⟩
 · have hx : ∀ x, x = false → cartoucheref06_May.j1 8 x a b s t = some true := fun x hx => by
    subst hx
    simp only [cartoucheref06_May.j1, Bool.false_eq_true, if_false]
    rw [if_neg (by omega), if_neg (by omega), if_neg (by omega)]
    by_cases h2 : a = 2
    · rw [if_pos h2]
    · rw [if_neg h2, decide_eq_true (by have := h9.resolve_left h2; omega)]
   by_cases h2 : a = 2
   · rw [if_pos h2]; exact hx _ rfl
   · rw [if_neg h2]; exact hx _ (by have := h5.resolve_left h2; simp [this])
 · rw [if_neg h5, show (a != 3) = true by simpa using h6]
   simp only [cartoucheref06_May.j1, if_true]
   rw [ba_nil0 h7, ba_nil0 h8, en, if_pos rfl]
   rfl
theorem rtext_f (t : ByteArray) (h : t.size ≤ 250) : cartoucheref01_Text.f t = some (lumpB t, 0) := by
 unfold cartoucheref01_Text.f cartoucheref01_size.f lumpB
 rw [if_neg (show ¬ (t.size : Int) > 65535 by omega), if_pos (show (t.size : Int) ≤ 250 by omega), Option.bind_some, if_pos]
 rw [strOfNums_size]
 simp; omega
theorem rbytes_ok (e : Evn) (h : evOk e) : cartoucheref06_Bytes.f 9 e.f0 e.f1 e.f2 e.f3 = some (evBytes e, 0) := by
 have hm := rmay_ok e h
 obtain ⟨a, b, s, t⟩ := e
 unfold evOk at h
 unfold evBytes evHead
 dsimp only at h hm ⊢
 obtain ⟨h1, h2, h3, h4, h5⟩ := h
 unfold cartoucheref06_Bytes.f
 rw [hm, Option.bind_some, if_pos rfl, Option.bind_some]
 rcases h5 with ⟨h5, h6, h7, h8, h9⟩ | ⟨h5, h6, h7, h8⟩
 · rw [if_pos h5]
   have hx : ∀ x, x = true → cartoucheref06_Bytes.j0 9 (strOfNums [a % 256, b % 256]) x a b s t = some ((strOfNums [a % 256, b % 256] ++ lumpB s) ++ lumpB t, 0) := fun x hx => by
    subst hx
    simp only [cartoucheref06_Bytes.j0, if_true]
    rw [rtext_f s (by omega), rtext_f t (by omega)]
    simp only [Option.bind_some]
    rw [if_pos (by rw [strOfNums_size, lumpB_size]; simp; omega), if_pos (by rw [ByteArray.size_append, strOfNums_size, lumpB_size, lumpB_size]; simp; omega)]
   by_cases h2 : a = 2
   · rw [if_pos h2]; exact hx _ rfl
   · rw [if_neg h2]; exact hx _ (by have := h5.resolve_left h2; simp [this])
 · rw [if_neg h5, if_neg (fun h => h.elim h5 h6), show (a == 3) = false by simpa using h6]
   simp only [cartoucheref06_Bytes.j0, Bool.false_eq_true, if_false]
theorem ap_inj {a b c d : ByteArray} (hs : a.size = c.size) (h : a ++ b = c ++ d) : a = c ∧ b = d := by
 have h2 : (a ++ b).data.toList = (c ++ d).data.toList := by rw [h]
 rw [ByteArray.data_append, ByteArray.data_append, Array.toList_append, Array.toList_append] at h2
 obtain ⟨h3, h4⟩ := List.append_inj h2 (by rw [Array.length_toList, Array.length_toList]; exact hs)
 exact ⟨ByteArray.ext (Array.toList_inj.1 h3), ByteArray.ext (Array.toList_inj.1 h4)⟩
theorem u8_inj {a b : Nat} (ha : a < 256) (hb : b < 256) (h : UInt8.ofNat a = UInt8.ofNat b) : a = b := by
 have := congrArg UInt8.toNat h
 rw [UInt8.toNat_ofNat', UInt8.toNat_ofNat'] at this
 omega
theorem num1_inj {a b : Int} (h : strOfNums [a % 256] = strOfNums [b % 256]) : a % 256 = b % 256 := by
 have h2 := congrArg (fun x : ByteArray => x.data.toList) h
 simp only [strOfNums, List.map_cons, List.map_nil, List.cons.injEq, and_true] at h2
 have := u8_inj (by omega) (by omega) h2
 omega
theorem num2_inj {a b c d : Int} (h : strOfNums [a % 256, b % 256] = strOfNums [c % 256, d % 256]) : a % 256 = c % 256 ∧ b % 256 = d % 256 := by
 have h2 := congrArg (fun x : ByteArray => x.data.toList) h
 simp only [strOfNums, List.map_cons, List.map_nil, List.cons.injEq, and_true] at h2
 have h3 := u8_inj (by omega) (by omega) h2.1
 have h4 := u8_inj (by omega) (by omega) h2.2
 omega
theorem lump_inj {p q x y : ByteArray} (hp : p.size ≤ 250) (hq : q.size ≤ 250) (h : lumpB p ++ x = lumpB q ++ y) : p = q ∧ x = y := by
 unfold lumpB at h
 rw [ByteArray.append_assoc, ByteArray.append_assoc] at h
 obtain ⟨h1, h2⟩ := ap_inj (by rw [strOfNums_size, strOfNums_size]; rfl) h
 have h3 := num1_inj h1
 exact ap_inj (by omega) h2
theorem ev_inj {e d : Evn} (he : evOk e) (hd : evOk d) (h : evBytes e = evBytes d) : e = d := by
 obtain ⟨a, b, s, t⟩ := e
 obtain ⟨a', b', s', t'⟩ := d
 unfold evOk at he hd
 unfold evBytes evHead at h
 dsimp only at he hd h
 obtain ⟨h1, h2, h3, h4, h5⟩ := he
 obtain ⟨k1, k2, k3, k4, k5⟩ := hd
 have hz : ∀ x y : Int, (strOfNums [x, y]).size = 2 := fun x y => by rw [strOfNums_size]; rfl
 rcases h5 with ⟨h5, h6, h7, h8, h9⟩ | ⟨h5, h6, h7, h8⟩ <;> rcases k5 with ⟨k5, k6, k7, k8, k9⟩ | ⟨k5, k6, k7, k8⟩
 · rw [if_pos h5, if_pos k5, ByteArray.append_assoc, ByteArray.append_assoc] at h
   obtain ⟨e1, e2⟩ := ap_inj (by rw [hz, hz]) h
   obtain ⟨e3, e4⟩ := num2_inj e1
   obtain ⟨e5, e6⟩ := lump_inj (by omega) (by omega) e2
   have e7 := (lump_inj (x := ⟨#[]⟩) (y := ⟨#[]⟩) (by omega) (by omega) (congrArg (· ++ (⟨#[]⟩ : ByteArray)) e6)).1
   obtain rfl : a = a' := by omega
   obtain rfl : b = b' := by omega
   rw [e5, e7]
 · rw [if_pos h5, if_neg (fun h => h.elim k5 k6)] at h
   have := congrArg ByteArray.size h
   rw [ByteArray.size_append, ByteArray.size_append, hz, hz, lumpB_size, lumpB_size] at this
   omega
 · rw [if_neg (fun h => h.elim h5 h6), if_pos k5] at h
   have := congrArg ByteArray.size h
   rw [ByteArray.size_append, ByteArray.size_append, hz, hz, lumpB_size, lumpB_size] at this
   omega
 · rw [if_neg (fun h => h.elim h5 h6), if_neg (fun h => h.elim k5 k6)] at h
   obtain ⟨e3, e4⟩ := num2_inj h
   obtain rfl : a = a' := by omega
   obtain rfl : b = b' := by omega
   rw [ba_nil0 h7, ba_nil0 h8, ba_nil0 k7, ba_nil0 k8]
end Go.Proofs.YtjlpjpjodhkpdaaGreatDoor
