/- TREES, IN PLAIN LEAN: what the printed functions come to. -/
import Derived.Test.YtlcmpmodfkmfnaaDoorQS
import Derived.Test.YtlcmpmodfkmfnaaDoorShown3
set_option linter.unusedVariables false
set_option linter.unusedSimpArgs false
namespace Go.Proofs.YtlcmpmodfkmfnaaDoor
open Go.RowKit Go.Proofs.YtlcmpmodfkmfnaaDoor.Q Go.Proofs.YtlcmpmodfkmfnaaDoorW.PrintWords

theorem wrap_id {x : Int} (h0 : -9223372036854775808 ≤ x) (h1 : x < 9223372036854775808) : wrap64 x = x := by unfold wrap64; omega
theorem wrapu_id {x : Int} (h0 : 0 ≤ x) (h1 : x < 18446744073709551616) : IntKind.u64.wrap x = x := by rw [IntKind.wrap_u64]; omega
theorem toList_inj {a b : ByteArray} : a.toList = b.toList ↔ a = b := ⟨bytes_inj, fun h => by rw [h]⟩
theorem drop_getD (l : List ByteArray) (i : Nat) (h : i < l.length) : l.drop i = l.getD i ByteArray.empty :: l.drop (i + 1) := by
  rw [List.drop_eq_getElem_cons h, List.getD_eq_getElem?_getD, List.getElem?_eq_getElem h]
  rfl
theorem rd_nat (l : List ByteArray) (i : Nat) : rdOf ByteArray.empty l (i : Int) = l.getD i ByteArray.empty := by
  unfold rdOf
  rw [Int.toNat_natCast]
theorem sumF_eq (s : ByteArray) (h : s.size ≤ 562949953421312) : sumF s = some (sumB s) := by unfold sumF; rw [if_pos h]
theorem bsum_f (s : ByteArray) (h : s.size ≤ 562949953421312) : blake_Sum.f s = some (sumB s) := sumF_eq s h
theorem rsum_f (s : ByteArray) (h : s.size ≤ 562949953421312) : cartoucheref02_Sum.f s = some (sumB s) := sumF_eq s h
theorem beL_snoc (v : Nat) : ∀ k, beL v (k + 1) = beL (v / 256) k ++ [((v % 256 : Nat) : Int)]
  | 0 => by simp [beL]
  | k + 1 => by
    have ih := beL_snoc v k
    show _ :: beL v (k + 1) = _
    rw [ih]
    show _ = _ :: (beL (v / 256) k ++ [((v % 256 : Nat) : Int)])
    rw [Nat.pow_succ, Nat.mul_comm, ← Nat.div_div_eq_div_mul]
theorem nb_step (v : Nat) (h : 0 < v) (hv : v < 18446744073709551616) : nb v = nb (v / 256) + 1 := by
  unfold nb
  rw [if_neg (by omega)]
  simp only [show v / 256 < 1 ↔ v < 256 by omega, show v / 256 < 256 ↔ v < 65536 by omega, show v / 256 < 65536 ↔ v < 16777216 by omega, show v / 256 < 16777216 ↔ v < 4294967296 by omega, show v / 256 < 4294967296 ↔ v < 1099511627776 by omega, show v / 256 < 1099511627776 ↔ v < 281474976710656 by omega, show v / 256 < 281474976710656 ↔ v < 72057594037927936 by omega, show v / 256 < 72057594037927936 ↔ v < 18446744073709551616 by omega]
  by_cases a0 : v < 256
  · rw [if_pos a0, if_pos a0]
  rw [if_neg a0, if_neg a0]
  by_cases a1 : v < 65536
  · rw [if_pos a1, if_pos a1]
  rw [if_neg a1, if_neg a1]
  by_cases a2 : v < 16777216
  · rw [if_pos a2, if_pos a2]
  rw [if_neg a2, if_neg a2]
  by_cases a3 : v < 4294967296
  · rw [if_pos a3, if_pos a3]
  rw [if_neg a3, if_neg a3]
  by_cases a4 : v < 1099511627776
  · rw [if_pos a4, if_pos a4]
  rw [if_neg a4, if_neg a4]
  by_cases a5 : v < 281474976710656
  · rw [if_pos a5, if_pos a5]
  rw [if_neg a5, if_neg a5]
  by_cases a6 : v < 72057594037927936
  · rw [if_pos a6, if_pos a6]
  rw [if_neg a6, if_neg a6]
  rw [if_pos hv]
theorem strOf_append (xs ys : List Int) : strOfNums xs ++ strOfNums ys = strOfNums (xs ++ ys) := by
  apply ByteArray.ext
  simp [strOfNums]
theorem rnum_l0 : ∀ (m : Nat) (v : Nat) (xs : List Int) (c : Nat), nb v = m → v < 18446744073709551616 → c + m ≤ 8 → xs.length = c →
    Ev (fun k => cartoucheref01_Num.l0 k (v : Int) (strOfNums xs) (c : Int)) (strOfNums (((c + m : Nat) : Int) :: (beL v m ++ xs)))
  | 0, v, xs, c, hn, hv, hc, hx => by
    have h0 : v = 0 := by
      unfold nb at hn
      repeat' split at hn
      all_goals omega
    subst h0
    refine Ev.step (f := fun _ => some (strOfNums (((c + 0 : Nat) : Int) :: (beL 0 0 ++ xs)))) (fun k => ?_) (Ev.now _)
    simp only [cartoucheref01_Num.l0]
    rw [if_neg (by decide)]
    simp only [Option.bind_some]
    rw [if_pos (by rw [strOfNums_size, strOfNums_size]; simp; omega), strOf_append]
    simp only [beL, List.nil_append, List.cons_append, Nat.add_zero]
    rw [Int.emod_eq_of_lt (by omega) (by omega)]
  | m + 1, v, xs, c, hn, hv, hc, hx => by
    have h0 : 0 < v := by
      cases v with
      | zero => simp [nb] at hn
      | succ v => omega
    have h1 := nb_step v h0 hv
    have ih := rnum_l0 m (v / 256) (((v % 256 : Nat) : Int) :: xs) (c + 1) (by omega) (by omega) (by omega) (by simp; omega)
    have e : strOfNums (((c + 1 + m : Nat) : Int) :: (beL (v / 256) m ++ ((v % 256 : Nat) : Int) :: xs)) = strOfNums (((c + (m + 1) : Nat) : Int) :: (beL v (m + 1) ++ xs)) := by
      rw [beL_snoc, List.append_assoc, show c + 1 + m = c + (m + 1) by omega]
      rfl
    rw [e] at ih
    refine Ev.step (fun k => ?_) ih
    simp only [cartoucheref01_Num.l0]
    rw [if_pos (by omega)]
    simp only [Option.bind_some]
    rw [if_pos (by rw [strOfNums_size, strOfNums_size]; simp; omega), strOf_append, Int.tmod_eq_emod_of_nonneg (by omega), Int.tdiv_eq_ediv_of_nonneg (by omega), wrapu_id (by omega) (by omega), wrap_id (by omega) (by omega)]
    simp only [List.cons_append, List.nil_append]
    rw [show ((v : Int) % 256) % 256 = ((v % 256 : Nat) : Int) by omega, show (v : Int) / 256 = ((v / 256 : Nat) : Int) by omega, show (c : Int) + 1 = ((c + 1 : Nat) : Int) by omega]
theorem rnum_f (v : Nat) (hv : v < 18446744073709551616) : Ev (fun k => cartoucheref01_Num.f k (v : Int)) (numB v) := by
  have h := rnum_l0 (nb v) v [] 0 rfl hv (by have := nb_le v; omega) (by simp)
  simp only [Nat.zero_add, List.append_nil] at h
  exact h


/-! ### Few -/
def fewV (n : Nat) : List ByteArray → Bool
  | [] => decide (n ≤ 200)
  | s :: r => if s.size ≤ 2000 then fewV n r else false
theorem fewV_spec (n : Nat) : ∀ l : List ByteArray, fewV n l = true → n ≤ 200 ∧ ∀ s ∈ l, s.size ≤ 2000
  | [], h => ⟨of_decide_eq_true h, fun s hs => by cases hs⟩
  | x :: r, h => by
    unfold fewV at h
    by_cases hx : x.size ≤ 2000
    · rw [if_pos hx] at h
      obtain ⟨h1, h2⟩ := fewV_spec n r h
      refine ⟨h1, fun s hs => ?_⟩
      rcases List.mem_cons.1 hs with rfl | hs
      · exact hx
      · exact h2 s hs
    · rw [if_neg hx] at h; cases h
theorem few_l0 (l : List ByteArray) (hl : l.length ≤ 9223372036854775806) : ∀ (d k : Nat), k + d = l.length → Ev (fun n => cartouchelaw03_few.l0 n l (k : Int)) (fewV l.length (l.drop k))
  | 0, k, hk => by
    obtain rfl : k = l.length := by omega
    rw [List.drop_length]
    refine Ev.step (f := fun _ => some (decide ((l.length : Int) ≤ 200))) (fun n => ?_) ?_
    · simp only [cartouchelaw03_few.l0]
      rw [if_neg (by omega)]
    · unfold fewV
      rw [show decide ((l.length : Int) ≤ 200) = decide (l.length ≤ 200) from decide_eq_decide.2 (by omega)]
      exact Ev.now _
  | d + 1, k, hk => by
    have ih := few_l0 l hl d (k + 1) (by omega)
    rw [drop_getD l k (by omega)]
    unfold fewV
    by_cases h : (l.getD k ByteArray.empty).size ≤ 2000
    · rw [if_pos h]
      refine Ev.step (fun n => ?_) ih
      simp only [cartouchelaw03_few.l0]
      rw [if_pos (by omega), if_pos (by omega), rd_nat, if_neg (by omega), wrap_id (by omega) (by omega)]
      rfl
    · rw [if_neg h]
      refine Ev.step (f := fun _ => some false) (fun n => ?_) (Ev.now _)
      simp only [cartouchelaw03_few.l0]
      rw [if_pos (by omega), if_pos (by omega), rd_nat, if_pos (by omega)]
theorem few_f (l : List ByteArray) (hl : l.length ≤ 9223372036854775806) : Ev (fun n => cartouchelaw03_few.f n l) (fewV l.length l) := few_l0 l hl l.length 0 (by omega)

/-! ### Roots -/
theorem root_f (n : Nat) (c : ByteArray) (hn : n ≤ 4096) (hc : c.size ≤ 562949953421311) : tree_root.f (n : Int) c = some (rootB n c) := by
  unfold tree_root.f lump_Num.f
  have h9 := numB_size n
  have hg : ((⟨#[2]⟩ : ByteArray) ++ numB n).size = 1 + (numB n).size := by rw [ByteArray.size_append]; rfl
  rw [wrapu_id (by omega) (by omega), if_pos (by omega), Int.toNat_natCast]
  simp only [Option.bind_some]
  rw [if_pos (by omega), if_pos (by omega)]
  rfl
theorem rroot_f (n : Nat) (c : ByteArray) (hn : n ≤ 4096) (hc : c.size ≤ 562949953421311) : Ev (fun k => cartoucheref03_RootIn.f k (n : Int) c) (rootB n c) := by
  have h9 := numB_size n
  have hg : ((⟨#[2]⟩ : ByteArray) ++ numB n).size = 1 + (numB n).size := by rw [ByteArray.size_append]; rfl
  unfold cartoucheref03_RootIn.f
  rw [wrapu_id (by omega) (by omega)]
  refine Ev.bind (rnum_f n (by omega)) ?_
  rw [if_pos (by omega), if_pos (by omega)]
  exact Ev.now _
theorem rootB_size (n : Nat) (c : ByteArray) (hc : c.size ≤ 32) : (rootB n c).size ≤ 42 := by
  have h9 := numB_size n
  unfold rootB
  rw [ByteArray.size_append, ByteArray.size_append]
  show 1 + _ + _ ≤ _
  omega
theorem crownB_size (l : List ByteArray) : (TM.crownL sumB l).size ≤ 32 := by
  unfold TM.crownL
  split
  · decide
  · rw [sumB_size]; decide
section
variable (l : List ByteArray) (hs : ∀ s ∈ l, s.size ≤ 562949953421311) (hl : l.length ≤ 2305843009213693952)
include hs hl
theorem crown_f : tree_crown.f l = some (TM.crownL sumB l) := by unfold tree_crown.f; rw [if_pos ⟨hl, hs⟩]
theorem top_f (h1 : 1 ≤ l.length) : tree_top.f l = some (TM.topL sumB l) := by unfold tree_top.f; rw [if_pos ⟨⟨h1, hl⟩, hs⟩]
theorem rtop_f (h1 : 1 ≤ l.length) : cartoucheref03_Top.f l = some (TM.topL sumB l) := by unfold cartoucheref03_Top.f; exact top_f l hs hl h1
theorem rcrown_f : cartoucheref03_Crown.f l = some (TM.crownL sumB l) := by
  unfold cartoucheref03_Crown.f TM.crownL
  by_cases h : l = []
  · rw [if_pos h, h]
    rfl
  · have h1 : 1 ≤ l.length := by
      cases l with
      | nil => exact absurd rfl h
      | cons a l => simp
    rw [if_neg (by omega), if_neg h, rtop_f l hs hl h1]
    simp only [Option.bind_some]
    rw [rsum_f _ (top_size l hs)]
    rfl
end
def rootR (l : List ByteArray) : ByteArray × Int := if 4096 < l.length then (⟨#[]⟩, 4) else (sumB (rootB l.length (TM.crownL sumB l)), 0)
theorem Root_f (l : List ByteArray) (hs : ∀ s ∈ l, s.size ≤ 562949953421311) : tree_Root.f l = some (rootR l) := by
  have hc := crownB_size l
  have hr := rootB_size l.length (TM.crownL sumB l) hc
  unfold tree_Root.f rootR
  by_cases h : 4096 < l.length
  · rw [if_pos (show (l.length : Int) > 4096 by omega), if_pos h]
  · have hm : l.length ≤ 2305843009213693952 := by omega
    have hc' : (TM.crownL sumB l).size ≤ 562949953421311 := Nat.le_trans hc (by decide)
    have hr' : (rootB l.length (TM.crownL sumB l)).size ≤ 562949953421312 := Nat.le_trans hr (by decide)
    rw [if_neg (show ¬ (l.length : Int) > 4096 by omega), if_neg h, crown_f l hs hm]
    refine Eq.trans (Option.bind_some _ _) ?_
    rw [root_f l.length _ (Nat.le_of_not_lt h) hc']
    refine Eq.trans (Option.bind_some _ _) ?_
    rw [bsum_f _ hr']
    exact Option.bind_some _ _
theorem rRoot_f (l : List ByteArray) (hs : ∀ s ∈ l, s.size ≤ 562949953421311) : Ev (fun k => cartoucheref03_Root.f k l) (rootR l) := by
  unfold cartoucheref03_Root.f rootR
  by_cases h : 4096 < l.length
  · simp only [if_pos (show (l.length : Int) > 4096 by omega), if_pos h]
    exact Ev.now _
  · have hc := crownB_size l
    have hr := rootB_size l.length (TM.crownL sumB l) hc
    simp only [if_neg (show ¬ (l.length : Int) > 4096 by omega), if_neg h, rcrown_f l hs (by omega), Option.bind_some]
    refine Ev.bind (rroot_f _ _ (by omega) (by omega)) ?_
    rw [rsum_f _ (by omega)]
    exact Ev.now _

/-! ### Halves, proofs of places -/
theorem rhalf_l0 (n : Nat) (hn : n ≤ 4096) : ∀ (d j : Nat), n ≤ j + d → 0 < j → j ≤ n + 1 → Ev (fun k => cartoucheref03_half.l0 k (n : Int) (j : Int)) (TM.halfFrom j n : Int)
  | 0, j, h, h0, h1 => by
    rw [TM.halfFrom, if_neg (by omega)]
    refine Ev.step (f := fun _ => some (j : Int)) (fun k => ?_) (Ev.now _)
    simp only [cartoucheref03_half.l0]
    rw [wrap_id (by omega) (by omega), if_neg (by omega)]
  | d + 1, j, h, h0, h1 => by
    rw [TM.halfFrom]
    by_cases hc : 2 * j < n
    · rw [if_pos ⟨h0, hc⟩]
      have ih := rhalf_l0 n hn d (2 * j) (by omega) (by omega) (by omega)
      refine Ev.step (fun k => ?_) ih
      simp only [cartoucheref03_half.l0]
      rw [wrap_id (by omega) (by omega), if_pos (by omega), show (j : Int) + (j : Int) = ((2 * j : Nat) : Int) by omega]
    · rw [if_neg (fun h => hc h.2)]
      refine Ev.step (f := fun _ => some (j : Int)) (fun k => ?_) (Ev.now _)
      simp only [cartoucheref03_half.l0]
      rw [wrap_id (by omega) (by omega), if_neg (by omega)]
theorem rhalf_f (n : Nat) (hn : n ≤ 4096) : Ev (fun k => cartoucheref03_half.f k (n : Int)) (TM.halfN n : Int) := rhalf_l0 n hn n 1 (by omega) (by omega) (by omega)
theorem half_f (n : Nat) (hn : n ≤ 4096) : tree_half.f (n : Int) = some (TM.halfN n : Int) := by
  unfold tree_half.f
  rw [if_pos (by omega), Int.toNat_natCast]
def pathR (l : List ByteArray) (i : Int) : List ByteArray × Int := if 4096 < l.length then ([], 4) else if i < 0 ∨ (l.length : Int) ≤ i then ([], 1) else (TM.pathL sumB l i.toNat, 0)
theorem path_f (l : List ByteArray) (i : Int) (hs : ∀ s ∈ l, s.size ≤ 562949953421311) : tree_Path.f l i = some (pathR l i) := by
  unfold tree_Path.f pathR
  split
  · rfl
  · split
    · rfl
    · first | rfl | rw [if_pos hs]
theorem path_le (l : List ByteArray) (i : Nat) (hi : i < l.length) (hl : l.length ≤ 4096) : (TM.pathL sumB l i).length ≤ 12 := by
  rw [path_len l i hi]
  exact TM.way_le 12 _ 0 i hl
theorem rpath_in : ∀ (n : Nat) (l : List ByteArray) (i : Nat), l.length = n → i < n → n ≤ 4096 → (∀ s ∈ l, s.size ≤ 562949953421311) → Ev (fun k => cartoucheref03_Path.f k l (i : Int)) (TM.pathL sumB l i, (0 : Int)) := by
  intro n
  induction n using Nat.strongRecOn with
  | ind n ih =>
    intro l i hn hi hm hs
    have start : ∀ k, cartoucheref03_Path.f (k + 1) l (i : Int) = cartoucheref03_Path.j0 k l (i : Int) false := fun k => by
      simp only [cartoucheref03_Path.f]
      rw [if_neg (by omega), if_neg (by omega), decide_eq_false (by omega)]
    refine Ev.step start ?_
    by_cases h1 : n = 1
    · rw [TM.pathL_nil sumB (by omega)]
      refine Ev.step (f := fun _ => some ([], (0 : Int))) (fun k => ?_) (Ev.now _)
      simp only [cartoucheref03_Path.j0, Bool.false_eq_true, if_false]
      rw [if_pos (by omega)]
    · have hp := TM.half_pos n; have hlt := TM.half_lt n (by omega)
      have hA : ∀ s ∈ l.take (TM.halfN n), s.size ≤ 562949953421311 := fun s h => hs s (List.mem_of_mem_take h)
      have hB : ∀ s ∈ l.drop (TM.halfN n), s.size ≤ 562949953421311 := fun s h => hs s (List.mem_of_mem_drop h)
      have lA : (l.take (TM.halfN n)).length = TM.halfN n := by rw [List.length_take]; omega
      have lB : (l.drop (TM.halfN n)).length = n - TM.halfN n := by rw [List.length_drop, hn]
      by_cases hc : i < TM.halfN n
      · have ihA := ih (TM.halfN n) hlt (l.take (TM.halfN n)) i lA hc (by omega) hA
        have hle := path_le (l.take (TM.halfN n)) i (by omega) (by omega)
        rw [TM.pathL_right sumB (by omega) (by rw [hn]; exact hc), hn]
        refine Ev.step (f := fun k => (cartoucheref03_half.f k (l.length : Int)).bind fun t146 => _) (fun k => by
          simp only [cartoucheref03_Path.j0, Bool.false_eq_true, if_false]
          rw [if_neg (by omega)]) ?_
        rw [hn]
        refine Ev.bind (rhalf_f n hm) ?_
        simp only [if_pos (show (i : Int) < (TM.halfN n : Int) by omega), if_pos (show (0 : Int) ≤ (TM.halfN n : Int) by omega), if_pos (show (TM.halfN n : Int) ≤ (n : Int) by omega), Int.toNat_natCast]
        refine Ev.bind ihA ?_
        simp only [rcrown_f _ hB (by omega), Option.bind_some]
        rw [if_pos (by omega), TM.crownL_ne sumB (by rintro h; rw [h] at lB; simp at lB; omega)]
        exact Ev.now _
      · have ihB := ih (n - TM.halfN n) (by omega) (l.drop (TM.halfN n)) (i - TM.halfN n) lB (by omega) (by omega) hB
        have hle := path_le (l.drop (TM.halfN n)) (i - TM.halfN n) (by omega) (by omega)
        rw [TM.pathL_left sumB (by omega) (by rw [hn]; exact hc), hn]
        refine Ev.step (f := fun k => (cartoucheref03_half.f k (l.length : Int)).bind fun t146 => _) (fun k => by
          simp only [cartoucheref03_Path.j0, Bool.false_eq_true, if_false]
          rw [if_neg (by omega)]) ?_
        rw [hn]
        refine Ev.bind (rhalf_f n hm) ?_
        simp only [if_neg (show ¬ (i : Int) < (TM.halfN n : Int) by omega), if_pos (show (0 : Int) ≤ (TM.halfN n : Int) by omega), if_pos (show (TM.halfN n : Int) ≤ (n : Int) by omega), Int.toNat_natCast]
        rw [wrap_id (by omega) (by omega), show (i : Int) - (TM.halfN n : Int) = ((i - TM.halfN n : Nat) : Int) by omega]
        refine Ev.bind ihB ?_
        simp only [rcrown_f _ hA (by omega), Option.bind_some]
        rw [if_pos (by omega), TM.crownL_ne sumB (by rintro h; rw [h] at lA; simp at lA; omega)]
        exact Ev.now _
theorem rpath_f (l : List ByteArray) (i : Int) (hs : ∀ s ∈ l, s.size ≤ 562949953421311) : Ev (fun k => cartoucheref03_Path.f k l i) (pathR l i) := by
  unfold pathR
  by_cases h1 : 4096 < l.length
  · rw [if_pos h1]
    refine Ev.step (f := fun _ => some ([], (4 : Int))) (fun k => ?_) (Ev.now _)
    simp only [cartoucheref03_Path.f]
    rw [if_pos (by omega)]
  · rw [if_neg h1]
    by_cases h2 : i < 0 ∨ (l.length : Int) ≤ i
    · rw [if_pos h2]
      refine Ev.step (f := fun k => cartoucheref03_Path.j0 k l i true) (fun k => ?_) (Ev.step (f := fun _ => some ([], (1 : Int))) (fun k => ?_) (Ev.now _))
      · simp only [cartoucheref03_Path.f]
        rw [if_neg (by omega)]
        by_cases h3 : i < 0
        · rw [if_pos h3]
        · rw [if_neg h3, decide_eq_true (by omega)]
      · simp only [cartoucheref03_Path.j0, if_true]
    · rw [if_neg h2]
      have := rpath_in l.length l i.toNat rfl (by omega) (by omega) hs
      rw [Int.toNat_of_nonneg (by omega)] at this
      exact this

/-! ### Rows the same -/
theorem rsame_l0 (x y : List ByteArray) (hl : x.length = y.length) (hx : x.length ≤ 9223372036854775806) : ∀ (d k : Nat), k + d = x.length → Ev (fun n => cartoucheref01_Same.l0 n x y (k : Int)) (decide (x.drop k = y.drop k))
  | 0, k, hk => by
    rw [List.drop_of_length_le (by omega), List.drop_of_length_le (by omega)]
    refine Ev.step (f := fun _ => some true) (fun n => ?_) (Ev.now _)
    simp only [cartoucheref01_Same.l0]
    rw [if_neg (by omega)]
  | d + 1, k, hk => by
    have ih := rsame_l0 x y hl hx d (k + 1) (by omega)
    rw [drop_getD x k (by omega), drop_getD y k (by omega)]
    by_cases h : x.getD k ByteArray.empty = y.getD k ByteArray.empty
    · rw [show decide (x.getD k ByteArray.empty :: x.drop (k + 1) = y.getD k ByteArray.empty :: y.drop (k + 1)) = decide (x.drop (k + 1) = y.drop (k + 1)) from decide_eq_decide.2 (by rw [h]; simp)]
      refine Ev.step (fun n => ?_) ih
      simp only [cartoucheref01_Same.l0]
      rw [if_pos (by omega), if_pos (by omega), if_pos (by omega), rd_nat, rd_nat, if_pos (toList_inj.2 h), wrap_id (by omega) (by omega)]
      rfl
    · rw [decide_eq_false (by intro e; exact h (List.cons.inj e).1)]
      refine Ev.step (f := fun _ => some false) (fun n => ?_) (Ev.now _)
      simp only [cartoucheref01_Same.l0]
      rw [if_pos (by omega), if_pos (by omega), if_pos (by omega), rd_nat, rd_nat, if_neg (fun e => h (toList_inj.1 e))]
theorem rsame_f (x y : List ByteArray) (hx : x.length ≤ 9223372036854775806) : Ev (fun n => cartoucheref01_Same.f n x y) (decide (x = y)) := by
  unfold cartoucheref01_Same.f
  by_cases h : x.length = y.length
  · simp only [if_pos (show (x.length : Int) = (y.length : Int) by omega)]
    have := rsame_l0 x y h hx x.length 0 (by omega)
    simpa using this
  · simp only [if_neg (show ¬ (x.length : Int) = (y.length : Int) by omega)]
    rw [decide_eq_false (by intro e; exact h (by rw [e]))]
    exact Ev.now _
end Go.Proofs.YtlcmpmodfkmfnaaDoor
