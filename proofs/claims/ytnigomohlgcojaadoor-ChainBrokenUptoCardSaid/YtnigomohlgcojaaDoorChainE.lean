/- THE DOCUMENT's Differ, AND WHY UNLIKE ROWS OF ONE HEAD GIVE SOMETHING AWAY, IN PLAIN LEAN. -/
import Derived.Test.YtnigomohlgcojaaDoorChainD
set_option linter.unusedVariables false
set_option linter.unusedSimpArgs false
namespace Go.Proofs.YtnigomohlgcojaaDoor
open Go.RowKit Go.Proofs.YtnigomohlgcojaaDoor.Q Go.Proofs.YtnigomohlgcojaaDoorW.PrintWords

theorem rev_get' (l : List Lk) (j : Nat) (h : j < l.length) : l.reverse.drop (l.length - 1 - j) = l.getD j z40 :: l.reverse.drop (l.length - j) := by
  have h2 := rev_get l (l.length - 1 - j) (by omega)
  rw [show l.length - 1 - (l.length - 1 - j) = j by omega, show l.length - 1 - j + 1 = l.length - j by omega] at h2
  exact h2
/-- The document's: i and j rows of links are left. -/
theorem rdiff_l0 (x y : List Lk) (hx : x.length ≤ 4294967296) (hy : y.length ≤ 4294967296) : ∀ (i j : Nat), i ≤ x.length → j ≤ y.length →
    Ev (fun n => cartoucheref04_Differ.l0 n x y ((i : Int) - 1) ((j : Int) - 1)) (dR (x.reverse.drop (x.length - i)) (y.reverse.drop (y.length - j)))
  | 0, j, hi, hj => by
    have e : dR (x.reverse.drop (x.length - 0)) (y.reverse.drop (y.length - j)) = (⟨#[]⟩, ⟨#[]⟩, false) := by
      rw [List.drop_of_length_le (by rw [List.length_reverse]; omega)]
      rfl
    rw [e]
    refine Ev.step (f := fun n => cartoucheref04_Differ.j2 n x y ((0 : Nat) - 1) ((j : Int) - 1) false) (fun n => ?_) (Ev.step (f := fun _ => some _) (fun n => ?_) (Ev.now _))
    · simp only [cartoucheref04_Differ.l0]
      rw [if_neg (by omega)]
    · simp only [cartoucheref04_Differ.j2, Bool.false_eq_true, if_false]
  | i + 1, 0, hi, hj => by
    have e : dR (x.reverse.drop (x.length - (i + 1))) (y.reverse.drop (y.length - 0)) = (⟨#[]⟩, ⟨#[]⟩, false) := by
      rw [List.drop_of_length_le (l := y.reverse) (by rw [List.length_reverse]; omega)]
      cases x.reverse.drop (x.length - (i + 1)) <;> rfl
    rw [e]
    refine Ev.step (f := fun n => cartoucheref04_Differ.j2 n x y (((i + 1 : Nat) : Int) - 1) (((0 : Nat) : Int) - 1) false) (fun n => ?_) (Ev.step (f := fun _ => some _) (fun n => ?_) (Ev.now _))
    · simp only [cartoucheref04_Differ.l0]
      rw [if_pos (by omega), decide_eq_false (by omega)]
    · simp only [cartoucheref04_Differ.j2, Bool.false_eq_true, if_false]
  | i + 1, j + 1, hi, hj => by
    have ih := rdiff_l0 x y hx hy i j (by omega) (by omega)
    have gx := rev_get' x i (by omega)
    have gy := rev_get' y j (by omega)
    rw [show x.length - (i + 1) = x.length - 1 - i by omega, show y.length - (j + 1) = y.length - 1 - j by omega, gx, gy]
    have ex : ((i + 1 : Nat) : Int) - 1 = (i : Int) := by omega
    have ey : ((j + 1 : Nat) : Int) - 1 = (j : Int) := by omega
    rw [ex, ey]
    generalize hA : x.getD i z40 = A at *
    generalize hB : y.getD j z40 = B at *
    refine Ev.step (f := fun n => cartoucheref04_Differ.j2 n x y (i : Int) (j : Int) true) (fun n => by
      simp only [cartoucheref04_Differ.l0]
      rw [if_pos (by omega), decide_eq_true (by omega)]) ?_
    have start : ∀ n, cartoucheref04_Differ.j2 (n + 1) x y (i : Int) (j : Int) true = (if (inputR A.f0 A.f1).1 = (inputR B.f0 B.f1).1 then cartoucheref04_Differ.l0 n x y ((i : Int) - 1) ((j : Int) - 1) else if sumB (inputR A.f0 A.f1).1 = sumB (inputR B.f0 B.f1).1 then some ((inputR A.f0 A.f1).1, (inputR B.f0 B.f1).1, true) else some (⟨#[]⟩, ⟨#[]⟩, false)) := fun n => by
      simp only [cartoucheref04_Differ.j2, if_true]
      rw [if_pos (by omega), if_pos (by omega), rdT_nat, hA, rinput_f]
      simp only [Option.bind_some]
      rw [if_pos (by omega), if_pos (by omega), rdT_nat, hB, rinput_f]
      simp only [Option.bind_some, toList_inj]
      rw [wrap_id (x := (i : Int) - 1) (by omega) (by omega), wrap_id (by omega) (by omega)]
      unfold cartoucheref02_Sum.f
      rw [sumF_eq _ (inputR_size _ _), sumF_eq _ (inputR_size _ _)]
      simp only [Option.bind_some, toList_inj]
    unfold dR
    by_cases h1 : (inputR A.f0 A.f1).1 = (inputR B.f0 B.f1).1
    · rw [if_pos h1]
      exact Ev.step (fun n => by rw [start, if_pos h1]) ih
    · rw [if_neg h1]
      refine Ev.step (f := fun _ => some _) (fun n => ?_) (Ev.now _)
      rw [start, if_neg h1]
      split <;> rfl
theorem rdiffer_f (a b : List ByteArray) (ha : a.length ≤ 200) (hb : b.length ≤ 200) : Ev (fun n => cartoucheref04_Differ.f n a b) (differR a b) := by
  have hla := linksR_length a; have hlb := linksR_length b
  have bad : ∀ x y, Ev (fun n => cartoucheref04_Differ.j0 n x y true) ((⟨#[]⟩ : ByteArray), (⟨#[]⟩ : ByteArray), false) := fun x y => by
    refine Ev.step (f := fun _ => some _) (fun n => ?_) (Ev.now _)
    simp only [cartoucheref04_Differ.j0, if_true]
  unfold cartoucheref04_Differ.f differR
  refine Ev.bind (rlinks_f a (by omega)) (Ev.bind (rlinks_f b (by omega)) ?_)
  by_cases h1 : (linksR a).2 = 0
  · simp only [if_pos h1]
    by_cases h2 : (linksR b).2 = 0
    · rw [if_pos ⟨h1, h2⟩]
      simp only [show ((linksR b).2 != 0) = false by simp [h2]]
      have h := rdiff_l0 (linksR a).1 (linksR b).1 (by omega) (by omega) _ _ (Nat.le_refl _) (Nat.le_refl _)
      rw [Nat.sub_self, Nat.sub_self, List.drop_zero, List.drop_zero] at h
      refine Ev.step (fun n => ?_) h
      simp only [cartoucheref04_Differ.j0, Bool.false_eq_true, if_false]
      rw [wrap_id (by omega) (by omega), wrap_id (by omega) (by omega)]
    · rw [if_neg (fun h => h2 h.2)]
      simp only [show ((linksR b).2 != 0) = true from bne_iff_ne.mpr h2]
      exact bad _ _
  · simp only [if_neg h1]
    rw [if_neg (fun h => h1 h.1)]
    exact bad _ _

/-! ### Rows of texts -/
theorem strSame_l0 (x y : List ByteArray) (hl : x.length = y.length) (hx : x.length ≤ 9223372036854775806) : ∀ (d k : Nat), k + d = x.length → Ev (fun n => cartoucheref01_Same.l0 n x y (k : Int)) (decide (x.drop k = y.drop k))
  | 0, k, hk => by
    rw [List.drop_of_length_le (by omega), List.drop_of_length_le (by omega), decide_eq_true rfl]
    refine Ev.step (f := fun _ => some true) (fun n => ?_) (Ev.now _)
    simp only [cartoucheref01_Same.l0]
    rw [if_neg (by omega)]
  | d + 1, k, hk => by
    have ih := strSame_l0 x y hl hx d (k + 1) (by omega)
    rw [drop_getD x k (by omega), drop_getD y k (by omega)]
    by_cases h : x.getD k ByteArray.empty = y.getD k ByteArray.empty
    · have e : decide (x.getD k ByteArray.empty :: x.drop (k + 1) = y.getD k ByteArray.empty :: y.drop (k + 1)) = decide (x.drop (k + 1) = y.drop (k + 1)) := by
        rw [h]
        simp
      rw [e]
      refine Ev.step (fun n => ?_) ih
      simp only [cartoucheref01_Same.l0]
      rw [if_pos (by omega), if_pos (by omega), if_pos (by omega), rd_nat, rd_nat, if_pos (toList_inj.2 h), wrap_id (by omega) (by omega)]
      rfl
    · have e : decide (x.getD k ByteArray.empty :: x.drop (k + 1) = y.getD k ByteArray.empty :: y.drop (k + 1)) = false := decide_eq_false fun h2 => h (List.cons.inj h2).1
      rw [e]
      refine Ev.step (f := fun _ => some false) (fun n => ?_) (Ev.now _)
      simp only [cartoucheref01_Same.l0]
      rw [if_pos (by omega), if_pos (by omega), if_pos (by omega), rd_nat, rd_nat, if_neg (fun h2 => h (toList_inj.1 h2))]
theorem strSame_f (x y : List ByteArray) (hx : x.length ≤ 9223372036854775806) : Ev (fun n => cartoucheref01_Same.f n x y) (decide (x = y)) := by
  unfold cartoucheref01_Same.f
  by_cases hl : x.length = y.length
  · have h := strSame_l0 x y hl hx x.length 0 (by omega)
    rw [List.drop_zero, List.drop_zero] at h
    refine Ev.congr (fun n => ?_) h
    rw [if_pos (by omega)]
    rfl
  · rw [decide_eq_false (fun h => hl (by rw [h]))]
    refine Ev.congr (f := fun _ => some false) (fun n => ?_) (Ev.now _)
    rw [if_neg (by omega)]

/-! ### Inputs bear both -/
theorem lenB_list (n : Nat) (h : n ≤ 65535) : (lenB (n : Int)).data.toList = if n ≤ 250 then [UInt8.ofNat n] else [251, UInt8.ofNat (n / 256), UInt8.ofNat (n % 256)] := by
  unfold lenB lenL
  rw [strOfNums_data]
  by_cases h1 : n ≤ 250
  · rw [if_pos (by omega), if_pos h1]
    simp only [List.map_cons, List.map_nil]
    rw [show ((n : Int) % 256).toNat = n by omega]
  · rw [if_neg (by omega), if_neg h1]
    simp only [List.map_cons, List.map_nil]
    rw [show ((n : Int) / 256 % 256).toNat = n / 256 by omega, show ((n : Int) % 256).toNat = n % 256 by omega]
    rfl
theorem u8_inj {a b : Nat} (ha : a < 256) (hb : b < 256) (h : UInt8.ofNat a = UInt8.ofNat b) : a = b := by
  have := congrArg UInt8.toNat h
  rw [UInt8.toNat_ofNat', UInt8.toNat_ofNat'] at this
  omega
theorem textB_inj {p q x y : ByteArray} (hp : p.size ≤ 65535) (hq : q.size ≤ 65535) (h : textB p ++ x = textB q ++ y) : p = q ∧ x = y := by
  have h2 := congrArg (fun s : ByteArray => s.data.toList) h
  unfold textB at h2
  simp only [ByteArray.data_append, Array.toList_append, lenB_list _ hp, lenB_list _ hq, List.append_assoc] at h2
  have fin : p.size = q.size → p.data.toList ++ x.data.toList = q.data.toList ++ y.data.toList → p = q ∧ x = y := fun hs h3 => by
    obtain ⟨h4, h5⟩ := List.append_inj h3 (by rw [ba_size, ba_size, hs])
    exact ⟨ba_ext h4, ba_ext h5⟩
  by_cases h1 : p.size ≤ 250
  · by_cases h3 : q.size ≤ 250
    · rw [if_pos h1, if_pos h3] at h2
      simp only [List.cons_append, List.nil_append, List.cons.injEq] at h2
      exact fin (u8_inj (by omega) (by omega) h2.1) h2.2
    · rw [if_pos h1, if_neg h3] at h2
      simp only [List.cons_append, List.nil_append, List.cons.injEq] at h2
      have := u8_inj (b := 251) (by omega) (by omega) h2.1
      omega
  · by_cases h3 : q.size ≤ 250
    · rw [if_neg h1, if_pos h3] at h2
      simp only [List.cons_append, List.nil_append, List.cons.injEq] at h2
      have := u8_inj (a := 251) (by omega) (by omega) h2.1
      omega
    · rw [if_neg h1, if_neg h3] at h2
      simp only [List.cons_append, List.nil_append, List.cons.injEq] at h2
      have e1 := u8_inj (by omega) (by omega) h2.2.1
      have e2 := u8_inj (by omega) (by omega) h2.2.2.1
      exact fin (by omega) h2.2.2.2
theorem inB_inj {p q b c : ByteArray} (h1 : p.size ≤ 65535) (h2 : q.size ≤ 65535) (h3 : b.size ≤ 65535) (h4 : c.size ≤ 65535) (h : inB p b = inB q c) : p = q ∧ b = c := by
  unfold inB at h
  rw [ByteArray.append_assoc, ByteArray.append_assoc] at h
  have h5 : textB p ++ textB b = textB q ++ textB c := by
    apply ba_ext
    have h6 := congrArg (fun s : ByteArray => s.data.toList) h
    simp only [ByteArray.data_append, Array.toList_append] at h6
    exact List.append_cancel_left h6
  obtain ⟨rfl, h7⟩ := textB_inj h1 h2 h5
  have h8 : textB b ++ ⟨#[]⟩ = textB c ++ ⟨#[]⟩ := by rw [h7]
  exact ⟨rfl, (textB_inj h3 h4 h8).1⟩
theorem headR_snoc : ∀ (p : ByteArray) (l : List ByteArray) (b : ByteArray), headR p (l ++ [b]) = if (headR p l).2 = 0 then nextR (headR p l).1 b else (⟨#[]⟩, (headR p l).2)
  | p, [], b => by
    show headR p [b] = _
    unfold headR
    simp only [headR, if_true]
    by_cases h : (nextR p b).2 = 0
    · rw [if_pos h, ← h]
    · rw [if_neg h]
      unfold nextR at h ⊢
      by_cases h2 : p.size ≤ 65535 ∧ b.size ≤ 65535
      · rw [if_pos h2] at h; exact absurd rfl h
      · rw [if_neg h2]
  | p, x :: r, b => by
    by_cases h : (nextR p x).2 = 0
    · have e0 : ∀ l, headR p (x :: l) = headR (nextR p x).1 l := fun l => by
        show (if _ then _ else _) = _
        rw [if_pos h]
      rw [List.cons_append, e0, headR_snoc _ r b]
      simp only [e0]
    · have e0 : ∀ l, headR p (x :: l) = (⟨#[]⟩, (nextR p x).2) := fun l => by
        show (if _ then _ else _) = _
        rw [if_neg h]
      rw [List.cons_append, e0]
      simp only [e0, if_neg h]
theorem linksL_snoc : ∀ (p : ByteArray) (l : List ByteArray) (b : ByteArray), (headR p l).2 = 0 → linksL p (l ++ [b]) = linksL p l ++ [⟨(headR p l).1, b⟩]
  | p, [], b, _ => rfl
  | p, x :: r, b, h0 => by
    simp only [headR] at h0 ⊢
    by_cases h : (nextR p x).2 = 0
    · rw [if_pos h] at h0 ⊢
      simp only [List.cons_append, linksL, nextB_eq]
      rw [linksL_snoc _ r b h0]
    · rw [if_neg h] at h0
      exact absurd h0 h
theorem dR_finds : ∀ (n : Nat) (a b : List ByteArray), a.length = n → b.length = n → a ≠ b → (headR ⟨#[]⟩ a).2 = 0 → (headR ⟨#[]⟩ b).2 = 0 → (headR ⟨#[]⟩ a).1 = (headR ⟨#[]⟩ b).1 →
    (dR (linksL ⟨#[]⟩ a).reverse (linksL ⟨#[]⟩ b).reverse).2.2 = true
  | 0, a, b, ha, hb, hne, _, _, _ => by
    rw [List.length_eq_zero_iff] at ha hb
    exact absurd (ha.trans hb.symm) hne
  | n + 1, a, b, ha, hb, hne, ea, eb, hh => by
    rcases List.eq_nil_or_concat a with rfl | ⟨a', x, rfl⟩
    · simp at ha
    rcases List.eq_nil_or_concat b with rfl | ⟨b', y, rfl⟩
    · simp at hb
    simp only [List.concat_eq_append] at *
    have la : a'.length = n := by simpa using ha
    have lb : b'.length = n := by simpa using hb
    rw [headR_snoc] at ea eb hh
    rw [headR_snoc] at hh
    by_cases e1 : (headR ⟨#[]⟩ a').2 = 0
    · by_cases e2 : (headR ⟨#[]⟩ b').2 = 0
      · rw [if_pos e1] at ea hh
        rw [if_pos e2] at eb hh
        rw [linksL_snoc _ _ _ e1, linksL_snoc _ _ _ e2, List.reverse_append, List.reverse_append]
        simp only [List.reverse_cons, List.reverse_nil, List.nil_append, List.cons_append]
        generalize hp : (headR ⟨#[]⟩ a').1 = p at *
        generalize hq : (headR ⟨#[]⟩ b').1 = q at *
        have okp : p.size ≤ 65535 ∧ x.size ≤ 65535 := by
          unfold nextR at ea
          by_cases h : p.size ≤ 65535 ∧ x.size ≤ 65535
          · exact h
          · rw [if_neg h] at ea; cases ea
        have okq : q.size ≤ 65535 ∧ y.size ≤ 65535 := by
          unfold nextR at eb
          by_cases h : q.size ≤ 65535 ∧ y.size ≤ 65535
          · exact h
          · rw [if_neg h] at eb; cases eb
        have ip : inputR p x = (inB p x, 0) := by unfold inputR; rw [if_pos okp]
        have iq : inputR q y = (inB q y, 0) := by unfold inputR; rw [if_pos okq]
        rw [nextR_ok okp, nextR_ok okq] at hh
        unfold dR
        simp only [ip, iq]
        by_cases h1 : inB p x = inB q y
        · rw [if_pos h1]
          obtain ⟨h2, rfl⟩ := inB_inj okp.1 okq.1 okp.2 okq.2 h1
          exact dR_finds n a' b' la lb (fun h => hne (by rw [h])) e1 e2 (by rw [hp, hq, h2])
        · rw [if_neg h1, if_pos hh]
      · rw [if_neg e2] at eb
        exact absurd eb e2
    · rw [if_neg e1] at ea
      exact absurd ea e1
theorem differR_finds (a b : List ByteArray) (hne : a ≠ b) (hl : a.length = b.length) (ea : (headR ⟨#[]⟩ a).2 = 0) (eb : (headR ⟨#[]⟩ b).2 = 0) (hh : (headR ⟨#[]⟩ a).1 = (headR ⟨#[]⟩ b).1) : (differR a b).2.2 = true := by
  have h1 : linksR a = (linksL ⟨#[]⟩ a, 0) := by unfold linksR; rw [if_pos ea]
  have h2 : linksR b = (linksL ⟨#[]⟩ b, 0) := by unfold linksR; rw [if_pos eb]
  unfold differR
  rw [h1, h2, if_pos ⟨rfl, rfl⟩]
  exact dR_finds a.length a b rfl hl.symm hne ea eb hh
end Go.Proofs.YtnigomohlgcojaaDoor
