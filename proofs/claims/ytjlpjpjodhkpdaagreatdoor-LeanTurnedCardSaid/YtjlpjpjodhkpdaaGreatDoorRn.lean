/- cartoucheref01.Num and cartoucheref03.RootIn, in plain words. -/
import Derived.Test.YtjlpjpjodhkpdaaGreatDoorQB
import Derived.Test.YtjlpjpjodhkpdaaGreatDoorClM
import Derived.Test.YtjlpjpjodhkpdaaGreatDoorPvM
set_option linter.unusedVariables false
set_option linter.unusedSimpArgs false
namespace Go.Proofs.YtjlpjpjodhkpdaaGreatDoor
open Go.RowKit Go.Proofs.YtjlpjpjodhkpdaaGreatDoor.Q Go.Proofs.YtjlpjpjodhkpdaaGreatDoorW.PrintWords
theorem wrapu_id {x : Int} (h0 : 0 ≤ x) (h1 : x < 18446744073709551616) : IntKind.u64.wrap x = x := by rw [IntKind.wrap_u64]; omega
theorem beL_snoc (v : Nat) : ∀ k, beL v (k + 1) = beL (v / 256) k ++ [((v % 256 : Nat) : Int)]
 | 0 => by simp [beL]
 | k + 1 => by
   have ih := beL_snoc v k
   show _ :: beL v (k + 1) = _
   rw [ih]
   show _ = _ :: (beL (v / 256) k ++ [((v % 256 : Nat) : Int)])
   rw [Nat.pow_succ, Nat.mul_comm, ← Nat.div_div_eq_div_mul]
theorem nb_step (v : Nat) (h : 0 < v) (hv : v < 18446744073709551616) : nb v = nb (v / 256) + 1 := by
 unfold nb
 rw [if_neg (by omega)]
 simp only [show v / 256 < 1 ↔ v < 256 by omega, show v / 256 < 256 ↔ v < 65536 by omega, show v / 256 < 65536 ↔ v < 16777216 by omega, show v / 256 < 16777216 ↔ v < 4294967296 by omega, show v / 256 < 4294967296 ↔ v < 1099511627776 by omega, show v / 256 < 1099511627776 ↔ v < 281474976710656 by omega, show v / 256 < 281474976710656 ↔ v < 72057594037927936 by omega, show v / 256 < 72057594037927936 ↔ v < 18446744073709551616 by omega]
 by_cases a0 : v < 256
 · rw [if_pos a0, if_pos a0]
 rw [if_neg a0, if_neg a0]
 by_cases a1 : v < 65536
 · rw [if_pos a1, if_pos a1]
 rw [if_neg a1, if_neg a1]
 by_cases a2 : v < 16777216
 · rw [if_pos a2, if_pos a2]
 rw [if_neg a2, if_neg a2]
 by_cases a3 : v < 4294967296
 · rw [if_pos a3, if_pos a3]
 rw [if_neg a3, if_neg a3]
 by_cases a4 : v < 1099511627776
 · rw [if_pos a4, if_pos a4]
 rw [if_neg a4, if_neg a4]
 by_cases a5 : v < 281474976710656
 · rw [if_pos a5, if_pos a5]
 rw [if_neg a5, if_neg a5]
 by_cases a6 : v < 72057594037927936
 · rw [if_pos a6, if_pos a6]
 rw [if_neg a6, if_neg a6]
 rw [if_pos hv]
theorem strOf_append (xs ys : List Int) : strOfNums xs ++ strOfNums ys = strOfNums (xs ++ ys) := by
 apply ByteArray.ext
 simp [strOfNums]
theorem rnum_l0 : ∀ (m : Nat) (v : Nat) (xs : List Int) (c : Nat), nb v = m → v < 18446744073709551616 → c + m ≤ 8 → xs.length = c →
 Ev (fun k => cartoucheref01_Num.l0 k (v : Int) (strOfNums xs) (c : Int)) (strOfNums (((c + m : Nat) : Int) :: (beL v m ++ xs)))
 | 0, v, xs, c, hn, hv, hc, hx => by
   have h0 : v = 0 := by
    unfold nb at hn
    repeat' split at hn
    all_goals omega
   subst h0
   refine Ev.step (f := fun _ => some (strOfNums (((c + 0 : Nat) : Int) :: (beL 0 0 ++ xs)))) (fun k => ?_) (Ev.now _)
   simp only [cartoucheref01_Num.l0]
   rw [if_neg (by decide)]
   simp only [Option.bind_some]
   rw [if_pos (by rw [strOfNums_size, strOfNums_size]; simp; omega), strOf_append]
   simp only [beL, List.nil_append, List.cons_append, Nat.add_zero]
   rw [Int.emod_eq_of_lt (by omega) (by omega)]
 | m + 1, v, xs, c, hn, hv, hc, hx => by
   have h0 : 0 < v := by
    cases v with
    | zero => simp [nb] at hn
    | succ v => omega
   have h1 := nb_step v h0 hv
   have ih := rnum_l0 m (v / 256) (((v % 256 : Nat) : Int) :: xs) (c + 1) (by omega) (by omega) (by omega) (by simp; omega)
   have e : strOfNums (((c + 1 + m : Nat) : Int) :: (beL (v / 256) m ++ ((v % 256 : Nat) : Int) :: xs)) = strOfNums (((c + (m + 1) : Nat) : Int) :: (beL v (m + 1) ++ xs)) := by
    rw [beL_snoc, List.append_assoc, show c + 1 + m = c + (m + 1) by omega]
    rfl
   rw [e] at ih
   refine Ev.step (fun k => ?_) ih
   simp only [cartoucheref01_Num.l0]
   rw [if_pos (by omega)]
   simp only [Option.bind_some]
   rw [if_pos (by rw [strOfNums_size, strOfNums_size]; simp; omega), strOf_append, Int.tmod_eq_emod_of_nonneg (by omega), Int.tdiv_eq_ediv_of_nonneg (by omega), wrapu_id (by omega) (by omega), wrap_id (by omega) (by omega)]
   simp only [List.cons_append, List.nil_append]
   rw [show ((v : Int) % 256) % 256 = ((v % 256 : Nat) : Int) by omega, show (v : Int) / 256 = ((v / 256 : Nat) : Int) by omega, show (c : Int) + 1 = ((c + 1 : Nat) : Int) by omega]
theorem rnum_f (v : Nat) (hv : v < 18446744073709551616) : Ev (fun k => cartoucheref01_Num.f k (v : Int)) (numB v) := by
 have h := rnum_l0 (nb v) v [] 0 rfl hv (by have := nb_le v; omega) (by simp)
 simp only [Nat.zero_add, List.append_nil] at h
 exact h
theorem rroot_f (n : Nat) (c : ByteArray) (hn : n ≤ 4096) (hc : c.size ≤ 562949953421311) : Ev (fun k => cartoucheref03_RootIn.f k (n : Int) c) (rootB n c) := by
 have h9 := numB_size n
 have hg : ((⟨#[2]⟩ : ByteArray) ++ numB n).size = 1 + (numB n).size := by rw [ByteArray.size_append]; rfl
 unfold cartoucheref03_RootIn.f
 rw [wrapu_id (by omega) (by omega)]
 refine Ev.bind (rnum_f n (by omega)) ?_
 rw [if_pos (by omega), if_pos (by omega)]
 exact Ev.now _
theorem rroot_any (n : Nat) (c : ByteArray) (hn : n ≤ 4096) (hc : c.size ≤ 562949953421311) (w : World) :
 Calls Tryz.prog 21 #[.int .i64 (n : Int), .string c] w fun e w' => e = .returned (.string (rootB n c)) ∧ Below w.heap.size w w' := by
 obtain ⟨k, hk⟩ := rroot_f n c hn hc
 exact cartoucheref03_RootIn.calls k _ _ _ w (hk k (Nat.le_refl _))
end Go.Proofs.YtjlpjpjodhkpdaaGreatDoor
