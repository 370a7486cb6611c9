/- THE LAWS OF TREES, IN PLAIN LEAN. -/
import Derived.Test.YtlcmpmodfkmfnaaDoorTreeC
set_option linter.unusedVariables false
set_option linter.unusedSimpArgs false
namespace Go.Proofs.YtlcmpmodfkmfnaaDoor
open Go.RowKit Go.Proofs.YtlcmpmodfkmfnaaDoor.Q Go.Proofs.YtlcmpmodfkmfnaaDoorW.PrintWords

/-! ### Roots apart -/
theorem numB_small (n : Nat) (h : n < 256) : (numB n).data.toList = if n = 0 then [0] else [1, UInt8.ofNat n] := by
  unfold numB numL strOfNums nb
  by_cases h0 : n = 0
  · subst h0
    rfl
  · rw [if_neg (by omega), if_pos (by omega), if_neg h0]
    simp [beL]
    rw [show ((n : Int) % 256).toNat = n by omega]
theorem rootB_inj {n m : Nat} {c d : ByteArray} (hn : n < 256) (hm : m < 256) (h : rootB n c = rootB m d) : n = m ∧ c = d := by
  unfold rootB at h
  rw [ByteArray.append_assoc, ByteArray.append_assoc] at h
  have h1 := (TM.app_inj rfl h).2
  have h2 : (numB n ++ c).data.toList = (numB m ++ d).data.toList := by rw [h1]
  rw [ByteArray.data_append, ByteArray.data_append, Array.toList_append, Array.toList_append, numB_small n hn, numB_small m hm] at h2
  by_cases a0 : n = 0
  · by_cases b0 : m = 0
    · subst a0; subst b0
      exact ⟨rfl, (TM.app_inj rfl h1).2⟩
    · rw [if_pos a0, if_neg b0] at h2
      have := (List.cons.inj h2).1
      cases this
  · by_cases b0 : m = 0
    · rw [if_neg a0, if_pos b0] at h2
      have := (List.cons.inj h2).1
      cases this
    · rw [if_neg a0, if_neg b0] at h2
      have h3 := (List.cons.inj (List.cons.inj h2).2).1
      have h4 : n = m := by
        have := congrArg UInt8.toNat h3
        simpa [Nat.mod_eq_of_lt hn, Nat.mod_eq_of_lt hm] using this
      subst h4
      exact ⟨rfl, (TM.app_inj rfl h1).2⟩
/-- Differ, of small rows. -/
def differR (a b : List ByteArray) : ByteArray × ByteArray × Bool :=
  if rootB a.length (TM.crownL sumB a) = rootB b.length (TM.crownL sumB b) then (if a.length = 0 then (⟨#[]⟩, ⟨#[]⟩, false) else tellL (TM.crownsL sumB a b))
  else tellL (TM.unlikeL sumB (rootB a.length (TM.crownL sumB a)) (rootB b.length (TM.crownL sumB b)))
theorem differ_f (a b : List ByteArray) (ha : a.length ≤ 200) (hb : b.length ≤ 200) (hA : ∀ s ∈ a, s.size ≤ 562949953421311) (hB : ∀ s ∈ b, s.size ≤ 562949953421311) :
    Ev (fun k => tree_Differ.f k a b) (differR a b) ∧ Ev (fun k => cartoucheref03_Differ.f k a b) (differR a b) := by
  have ca := crownB_size a; have cb := crownB_size b
  have sa := rootB_size a.length _ ca; have sb := rootB_size b.length _ cb
  unfold tree_Differ.f cartoucheref03_Differ.f
  simp only [if_neg (show ¬ (a.length : Int) > 4096 by omega), decide_eq_false (show ¬ (b.length : Int) > 4096 by omega)]
  have fin : Ev (fun k => if (rootB a.length (TM.crownL sumB a)).toList = (rootB b.length (TM.crownL sumB b)).toList then (if (a.length : Int) = 0 then (some ((⟨#[]⟩ : ByteArray), (⟨#[]⟩ : ByteArray), false)) else ((tree_crowns.f k a b).bind fun bt219 => (some (bt219.1, bt219.2.1, bt219.2.2)))) else ((tree_unlike.f (rootB a.length (TM.crownL sumB a)) (rootB b.length (TM.crownL sumB b))).bind fun bt222 => (some (bt222.1, bt222.2.1, bt222.2.2)))) (differR a b) ∧
      Ev (fun k => if (rootB a.length (TM.crownL sumB a)).toList = (rootB b.length (TM.crownL sumB b)).toList then (if (a.length : Int) = 0 then (some ((⟨#[]⟩ : ByteArray), (⟨#[]⟩ : ByteArray), false)) else ((cartoucheref03_crowns.f k a b).bind fun bt382 => (some (bt382.1, bt382.2.1, bt382.2.2)))) else ((cartoucheref03_unlike.f (rootB a.length (TM.crownL sumB a)) (rootB b.length (TM.crownL sumB b))).bind fun bt385 => (some (bt385.1, bt385.2.1, bt385.2.2)))) (differR a b) := by
    unfold differR
    simp only [toList_inj]
    by_cases he : rootB a.length (TM.crownL sumB a) = rootB b.length (TM.crownL sumB b)
    · simp only [if_pos he]
      by_cases h0 : a.length = 0
      · simp only [if_pos h0, if_pos (show (a.length : Int) = 0 by omega)]
        exact ⟨Ev.now _, Ev.now _⟩
      · have hl := (rootB_inj (by omega) (by omega) he).1
        have hC := crowns_f a.length a b rfl hl.symm (by omega) (by omega) hA hB
        simp only [if_neg h0, if_neg (show ¬ (a.length : Int) = 0 by omega)]
        exact ⟨Ev.bind hC.1 (Ev.now _), Ev.bind hC.2 (Ev.now _)⟩
    · have za : (rootB a.length (TM.crownL sumB a)).size ≤ 562949953421312 := Nat.le_trans sa (by decide)
      have zb : (rootB b.length (TM.crownL sumB b)).size ≤ 562949953421312 := Nat.le_trans sb (by decide)
      generalize rootB a.length (TM.crownL sumB a) = X at *
      generalize rootB b.length (TM.crownL sumB b) = Y at *
      simp only [if_neg he]
      rw [unlike_f X Y za zb, runlike_f X Y za zb]
      exact ⟨Ev.now _, Ev.now _⟩
  constructor
  · refine Ev.step (fun k => ?_) fin.1
    simp only [tree_Differ.j0, Bool.false_eq_true, if_false]
    rw [crown_f a hA (by omega)]
    refine Eq.trans (Option.bind_some _ _) ?_
    rw [root_f a.length _ (by omega) (Nat.le_trans ca (by decide))]
    refine Eq.trans (Option.bind_some _ _) ?_
    rw [crown_f b hB (by omega)]
    refine Eq.trans (Option.bind_some _ _) ?_
    rw [root_f b.length _ (by omega) (Nat.le_trans cb (by decide))]
    exact Option.bind_some _ _
  · refine Ev.step (f := fun k => (cartoucheref03_RootIn.f k (a.length : Int) (TM.crownL sumB a)).bind fun t379 => ((cartoucheref03_RootIn.f k (b.length : Int) (TM.crownL sumB b)).bind fun t381 => (if t379.toList = t381.toList then (if (a.length : Int) = 0 then (some ((⟨#[]⟩ : ByteArray), (⟨#[]⟩ : ByteArray), false)) else ((cartoucheref03_crowns.f k a b).bind fun bt382 => (some (bt382.1, bt382.2.1, bt382.2.2)))) else ((cartoucheref03_unlike.f t379 t381).bind fun bt385 => (some (bt385.1, bt385.2.1, bt385.2.2)))))) (fun k => ?_) ?_
    · simp only [cartoucheref03_Differ.j0, Bool.false_eq_true, if_false]
      rw [rcrown_f a hA (by omega), rcrown_f b hB (by omega)]
      exact Option.bind_some _ _
    · exact Ev.bind (rroot_f _ _ (by omega) (by omega)) (Ev.bind (rroot_f _ _ (by omega) (by omega)) fin.2)
/-- What Differ gives are two unlike texts of one sum. -/
theorem differR_good (a b : List ByteArray) (h : (differR a b).2.2 = true) : (differR a b).1 ≠ (differR a b).2.1 ∧ sumB (differR a b).1 = sumB (differR a b).2.1 ∧ ((∀ s ∈ a, s.size ≤ 562949953421311) → (∀ s ∈ b, s.size ≤ 562949953421311) → True) := by
  unfold differR at *
  split at h
  · split at h
    · cases h
    · rename_i h1 h2
      rw [if_pos h1, if_neg h2]
      cases hc : TM.crownsL sumB a b with
      | none => rw [hc] at h; cases h
      | some t =>
        obtain ⟨x, y⟩ := t
        have := TM.crowns_good sumB a.length a b x y rfl hc
        exact ⟨this.1, this.2, fun _ _ => trivial⟩
  · rename_i h1
    rw [if_neg h1]
    cases hc : TM.unlikeL sumB (rootB a.length (TM.crownL sumB a)) (rootB b.length (TM.crownL sumB b)) with
    | none => rw [hc] at h; cases h
    | some t =>
      obtain ⟨x, y⟩ := t
      have := TM.unlike_good sumB hc
      exact ⟨this.1, this.2, fun _ _ => trivial⟩
theorem unlike_is {a b x y : ByteArray} (h : TM.unlikeL sumB a b = some (x, y)) : x = a ∧ y = b := by
  unfold TM.unlikeL at h
  split at h
  · cases h
  · split at h
    · obtain ⟨rfl, rfl⟩ := Prod.mk.inj (Option.some.inj h)
      exact ⟨rfl, rfl⟩
    · cases h
theorem crowns_size : ∀ (n : Nat) (a b : List ByteArray) (x y : ByteArray), a.length = n → (∀ s ∈ a, s.size ≤ 562949953421311) → (∀ s ∈ b, s.size ≤ 562949953421311) → TM.crownsL sumB a b = some (x, y) → x.size ≤ 562949953421312 ∧ y.size ≤ 562949953421312 := by
  intro n
  induction n using Nat.strongRecOn with
  | ind n ih =>
    intro a b x y hn hA hB h
    unfold TM.crownsL at h
    split at h
    · split at h
      · rename_i h1 h2
        have hp := TM.half_pos a.length; have hlt := TM.half_lt a.length h2
        cases hc : TM.crownsL sumB (a.take (TM.halfN a.length)) (b.take (TM.halfN a.length)) with
        | some t =>
          rw [hc] at h
          obtain rfl := Option.some.inj h
          exact ih (TM.halfN a.length) (by omega) _ _ x y (by rw [List.length_take]; omega) (fun s h => hA s (List.mem_of_mem_take h)) (fun s h => hB s (List.mem_of_mem_take h)) hc
        | none =>
          rw [hc] at h
          exact ih (a.length - TM.halfN a.length) (by omega) _ _ x y (by simp) (fun s h => hA s (List.mem_of_mem_drop h)) (fun s h => hB s (List.mem_of_mem_drop h)) h
      · cases h
    · obtain ⟨rfl, rfl⟩ := unlike_is h
      exact ⟨top_size a hA, top_size b hB⟩
theorem differR_size (a b : List ByteArray) (hA : ∀ s ∈ a, s.size ≤ 562949953421311) (hB : ∀ s ∈ b, s.size ≤ 562949953421311) : (differR a b).1.size ≤ 562949953421312 ∧ (differR a b).2.1.size ≤ 562949953421312 := by
  unfold differR
  split
  · split
    · exact ⟨by decide, by decide⟩
    · cases hc : TM.crownsL sumB a b with
      | none => exact ⟨by decide, by decide⟩
      | some t => exact crowns_size a.length a b t.1 t.2 rfl hA hB hc
  · cases hc : TM.unlikeL sumB (rootB a.length (TM.crownL sumB a)) (rootB b.length (TM.crownL sumB b)) with
    | none => exact ⟨by decide, by decide⟩
    | some t =>
      obtain ⟨x, y⟩ := t
      obtain ⟨rfl, rfl⟩ := unlike_is hc
      have sa := rootB_size a.length _ (crownB_size a); have sb := rootB_size b.length _ (crownB_size b)
      exact ⟨by show (rootB a.length (TM.crownL sumB a)).size ≤ _; omega, by show (rootB b.length (TM.crownL sumB b)).size ≤ _; omega⟩
theorem scan_size : ∀ (xs ys : List ByteArray) (x y : ByteArray), (∀ s ∈ xs, s.size ≤ 562949953421312) → (∀ s ∈ ys, s.size ≤ 562949953421312) → TM.scanL sumB xs ys = some (x, y) → x.size ≤ 562949953421312 ∧ y.size ≤ 562949953421312
  | a :: xs, b :: ys, x, y, hx, hy, h => by
    rw [TM.scanL] at h
    by_cases h1 : a = b
    · rw [if_pos h1] at h
      exact scan_size xs ys x y (fun s hs => hx s (by simp [hs])) (fun s hs => hy s (by simp [hs])) h
    · rw [if_neg h1] at h
      obtain ⟨rfl, rfl⟩ := unlike_is h
      exact ⟨hx _ (by simp), hy _ (by simp)⟩
  | [], _, x, y, _, _, h => by cases h
  | _ :: _, [], x, y, _, _, h => by cases h
theorem clashR_spec (n i : Int) (a : ByteArray) (p : List ByteArray) (b : ByteArray) (q : List ByteArray) (ha : a.size ≤ 562949953421311) (hb : b.size ≤ 562949953421311) :
    ((clashR n i a p b q).1.size ≤ 562949953421312 ∧ (clashR n i a p b q).2.1.size ≤ 562949953421312) ∧ ((clashR n i a p b q).2.2 = true → (clashR n i a p b q).1 ≠ (clashR n i a p b q).2.1 ∧ sumB (clashR n i a p b q).1 = sumB (clashR n i a p b q).2.1) := by
  unfold clashR
  split
  · exact ⟨⟨by decide, by decide⟩, (fun h => by cases h)⟩
  · rename_i h
    have h1 : (climbR n i a p).2 = 0 := Decidable.byContradiction fun hn => h (.inl hn)
    have h2 : (climbR n i b q).2 = 0 := Decidable.byContradiction fun hn => h (.inr hn)
    obtain ⟨_, _, _, _, _, htx⟩ := climbR_ok h1 ha
    obtain ⟨_, _, _, _, _, hty⟩ := climbR_ok h2 hb
    cases hc : TM.scanL sumB (climbR n i a p).1.reverse (climbR n i b q).1.reverse with
    | none => exact ⟨⟨by decide, by decide⟩, (fun h => by cases h)⟩
    | some t =>
      obtain ⟨x, y⟩ := t
      exact ⟨scan_size _ _ x y (fun s hs => htx s (by simpa using hs)) (fun s hs => hty s (by simpa using hs)) hc, fun _ => TM.scan_good sumB _ _ x y hc⟩

/-! ### Of several laws -/
theorem small_of {l : List ByteArray} (h : l.length * 16 ≤ 140737488351232 ∧ ∀ x ∈ l, x.size ≤ 140737488351232) : ∀ s ∈ l, s.size ≤ 562949953421311 := fun s hs => Nat.le_trans (h.2 s hs) (by decide)
theorem len_of {l : List ByteArray} (h : l.length * 16 ≤ 140737488351232 ∧ ∀ x ∈ l, x.size ≤ 140737488351232) : l.length ≤ 9223372036854775806 := by omega
theorem str_of {a : ByteArray} (h : a.size ≤ 140737488351232) : a.size ≤ 562949953421311 := by omega

theorem path_32 (l : List ByteArray) (i : Nat) (hi : i < l.length) : ∀ p ∈ TM.pathL sumB l i, p.size = 32 := by
  intro p hp
  rw [← TM.path_way0 sumB l i hi, List.mem_reverse, List.mem_map] at hp
  obtain ⟨s, hs, rfl⟩ := hp
  have hw := TM.way_in l.length 0 i (by omega) (by omega) s hs
  rw [TM.crownL_ne sumB (TM.part_ne l _ _ (by omega) hw.2.1)]
  exact sumB_size _
theorem check_path (l : List ByteArray) (i : Nat) (hi : i < l.length) (hm : l.length ≤ 4096) : checkR (sumB (rootB l.length (TM.crownL sumB l))) (l.length : Int) (i : Int) (l.getD i ByteArray.empty) (TM.pathL sumB l i) = 0 := by
  obtain ⟨L, h1, h2⟩ := TM.inputs_path sumB (l.getD i ByteArray.empty) l.length l i rfl hi rfl
  have h3 := TM.inputs_climb sumB (l.getD i ByteArray.empty) l.length 0 i (TM.pathL sumB l i) (by omega) (by omega)
  rw [Nat.sub_zero, h1] at h3
  have hpl := path_len l i hi
  rw [if_pos hpl] at h3
  obtain rfl := Option.some.inj h3
  have hc : climbR (l.length : Int) (i : Int) (l.getD i ByteArray.empty) (TM.pathL sumB l i) = (TM.climbF sumB (TM.rights 0 l.length i) (TM.pathL sumB l i) [TM.leafB (l.getD i ByteArray.empty)] ++ [rootB l.length (sumB (TM.lastB (TM.climbF sumB (TM.rights 0 l.length i) (TM.pathL sumB l i) [TM.leafB (l.getD i ByteArray.empty)])))], 0) := by
    unfold climbR
    rw [if_neg (by omega)]
    simp only [Int.toNat_natCast]
    rw [if_neg (fun h => h.elim (fun h => h hpl) (fun ⟨p, hp, hn⟩ => hn (path_32 l i hi p hp)))]
  unfold checkR
  rw [hc]
  simp only [if_true, TM.lastB_snoc]
  rw [h2, TM.crownL_ne sumB (by rintro rfl; simp at hi), if_pos rfl]
theorem check_zero {root : ByteArray} {n i : Int} {s : ByteArray} {path : List ByteArray} (h : checkR root n i s path = 0) : (climbR n i s path).2 = 0 ∧ sumB (TM.lastB (climbR n i s path).1) = root := by
  unfold checkR at h
  by_cases h1 : (climbR n i s path).2 = 0
  · rw [if_pos h1] at h
    by_cases h2 : sumB (TM.lastB (climbR n i s path).1) = root
    · exact ⟨h1, h2⟩
    · rw [if_neg h2] at h
      cases h
  · rw [if_neg h1] at h
    exact absurd h h1
theorem clash_found (root : ByteArray) (n i : Int) (a : ByteArray) (p : List ByteArray) (b : ByteArray) (q : List ByteArray) (hab : a ≠ b) (ha : a.size ≤ 562949953421311) (hb : b.size ≤ 562949953421311) (h1 : checkR root n i a p = 0) (h2 : checkR root n i b q = 0) :
    (clashR n i a p b q).2.2 = true := by
  obtain ⟨c1, r1⟩ := check_zero h1
  obtain ⟨c2, r2⟩ := check_zero h2
  obtain ⟨hN, hp, hp32, hx, _, _⟩ := climbR_ok c1 ha
  obtain ⟨_, hq, hq32, hy, _, _⟩ := climbR_ok c2 hb
  unfold clashR
  rw [if_neg (fun h => h.elim (fun h => h c1) (fun h => h c2)), hx, hy]
  rw [hx, TM.lastB_snoc] at r1
  rw [hy, TM.lastB_snoc] at r2
  rw [List.reverse_append, List.reverse_append]
  have hcl := TM.climb_clash sumB sumB_size a b hab (TM.wayL 0 n.toNat i.toNat).length (TM.rights 0 n.toNat i.toNat) p q (TM.rights_length _ _ _) hp hq hp32 hq32
  generalize TM.climbF sumB (TM.rights 0 n.toNat i.toNat) p [TM.leafB a] = X at *
  generalize TM.climbF sumB (TM.rights 0 n.toNat i.toNat) q [TM.leafB b] = Y at *
  show (tellL (TM.scanL sumB (rootB n.toNat (sumB (TM.lastB X)) :: X.reverse) (rootB n.toNat (sumB (TM.lastB Y)) :: Y.reverse))).2.2 = true
  rw [TM.scanL]
  by_cases he : rootB n.toNat (sumB (TM.lastB X)) = rootB n.toNat (sumB (TM.lastB Y))
  · rw [if_pos he]
    unfold rootB at he
    have h3 := (TM.app_inj rfl he).2
    obtain ⟨t, ht⟩ := hcl h3
    rw [ht]
    rfl
  · rw [if_neg he, TM.unlike_some sumB he (r1.trans r2.symm)]
    rfl
theorem differ_found (a b : List ByteArray) (hab : a ≠ b) (ha : a.length ≤ 200) (hb : b.length ≤ 200) (h : sumB (rootB a.length (TM.crownL sumB a)) = sumB (rootB b.length (TM.crownL sumB b))) : (differR a b).2.2 = true := by
  unfold differR
  by_cases he : rootB a.length (TM.crownL sumB a) = rootB b.length (TM.crownL sumB b)
  · rw [if_pos he]
    obtain ⟨hl, hc⟩ := rootB_inj (by omega) (by omega) he
    by_cases h0 : a.length = 0
    · exfalso
      have e1 := List.eq_nil_of_length_eq_zero h0
      have e2 := List.eq_nil_of_length_eq_zero (hl ▸ h0)
      exact hab (by rw [e1, e2])
    · have hna : a ≠ [] := by rintro rfl; exact h0 rfl
      have hnb : b ≠ [] := by rintro rfl; exact h0 (by rw [hl]; rfl)
      rw [if_neg h0]
      rw [TM.crownL_ne sumB hna, TM.crownL_ne sumB hnb] at hc
      obtain ⟨t, ht⟩ := TM.crowns_some sumB sumB_size a.length a b rfl hl.symm (by omega) hab hc
      rw [ht]
      rfl
  · rw [if_neg he, TM.unlike_some sumB he h]
    rfl
end Go.Proofs.YtlcmpmodfkmfnaaDoor
