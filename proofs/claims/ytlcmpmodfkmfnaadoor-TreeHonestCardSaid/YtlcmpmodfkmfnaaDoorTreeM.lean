/- TREES OF SUMS, IN PLAIN LEAN: halves, tops, ways, paths, climbs; no program in sight. -/
import Derived.RowKit
set_option linter.unusedVariables false
set_option linter.unusedSimpArgs false
namespace Go.Proofs.YtlcmpmodfkmfnaaDoor.TM

/-- The doublings of k that lie below n. -/
def halfFrom (k n : Nat) : Nat := if 0 < k ∧ 2 * k < n then halfFrom (2 * k) n else k
termination_by n - k
def halfN (n : Nat) : Nat := halfFrom 1 n
theorem halfFrom_spec (k n : Nat) (hk : 0 < k) : k ≤ halfFrom k n ∧ n ≤ 2 * halfFrom k n ∧ (k < n → halfFrom k n < n) ∧ ∃ j, halfFrom k n = k * 2 ^ j := by
  induction h : n - k using Nat.strongRecOn generalizing k with
  | ind d ih =>
    unfold halfFrom
    by_cases hc : 0 < k ∧ 2 * k < n
    · rw [if_pos hc]
      obtain ⟨h1, h2, h3, j, h4⟩ := ih (n - 2 * k) (by omega) (2 * k) (by omega) rfl
      exact ⟨by omega, h2, fun _ => h3 hc.2, j + 1, by rw [h4, Nat.pow_succ, Nat.mul_comm 2 k, Nat.mul_assoc, Nat.mul_comm 2 (2 ^ j)]⟩
    · rw [if_neg hc]
      exact ⟨Nat.le_refl _, by omega, fun h => h, 0, by simp⟩
theorem half_pos (n : Nat) : 1 ≤ halfN n := (halfFrom_spec 1 n (by omega)).1
theorem half_lt (n : Nat) (h : 1 < n) : halfN n < n := (halfFrom_spec 1 n (by omega)).2.2.1 h
theorem half_ge (n : Nat) : n ≤ 2 * halfN n := (halfFrom_spec 1 n (by omega)).2.1
theorem half_pow (n : Nat) : ∃ j, halfN n = 2 ^ j := by
  obtain ⟨j, h⟩ := (halfFrom_spec 1 n (by omega)).2.2.2
  exact ⟨j, by unfold halfN; rw [h]; simp⟩

def leafB (s : ByteArray) : ByteArray := (⟨#[0]⟩ : ByteArray) ++ s
def nodeB (a b : ByteArray) : ByteArray := ((⟨#[1]⟩ : ByteArray) ++ a) ++ b

section
variable (H : ByteArray → ByteArray)
/-- The input of a crown. -/
def topL (l : List ByteArray) : ByteArray :=
  if h : 1 < l.length then nodeB (H (topL (l.take (halfN l.length)))) (H (topL (l.drop (halfN l.length)))) else leafB (l.headD ByteArray.empty)
termination_by l.length
decreasing_by
  · have := half_lt l.length h; simp; omega
  · have := half_pos l.length; simp; omega
def crownL (l : List ByteArray) : ByteArray := if l = [] then ByteArray.empty else H (topL H l)
theorem topL_one (s : ByteArray) : topL H [s] = leafB s := by
  unfold topL
  rw [dif_neg (by simp)]
  rfl
theorem topL_two (l : List ByteArray) (h : 1 < l.length) : topL H l = nodeB (H (topL H (l.take (halfN l.length)))) (H (topL H (l.drop (halfN l.length)))) := by
  rw [topL, dif_pos h]

/-- The sides from the root on: is the other side the right one, and which places has it. -/
def wayL (lo n i : Nat) : List (Bool × Nat × Nat) :=
  if h : 1 < n then
    if i < lo + halfN n then (true, lo + halfN n, lo + n) :: wayL lo (halfN n) i
    else (false, lo, lo + halfN n) :: wayL (lo + halfN n) (n - halfN n) i
  else []
termination_by n
decreasing_by
  · exact half_lt n h
  · have := half_pos n; omega
theorem wayL_right {lo n i : Nat} (h : 1 < n) (hi : i < lo + halfN n) : wayL lo n i = (true, lo + halfN n, lo + n) :: wayL lo (halfN n) i := by
  rw [wayL, dif_pos h, if_pos hi]
theorem wayL_left {lo n i : Nat} (h : 1 < n) (hi : ¬ i < lo + halfN n) : wayL lo n i = (false, lo, lo + halfN n) :: wayL (lo + halfN n) (n - halfN n) i := by
  rw [wayL, dif_pos h, if_neg hi]
theorem wayL_nil {lo n i : Nat} (h : ¬ 1 < n) : wayL lo n i = [] := by
  rw [wayL, dif_neg h]

def pathL (l : List ByteArray) (i : Nat) : List ByteArray :=
  if h : 1 < l.length then
    if i < halfN l.length then pathL (l.take (halfN l.length)) i ++ [H (topL H (l.drop (halfN l.length)))]
    else pathL (l.drop (halfN l.length)) (i - halfN l.length) ++ [H (topL H (l.take (halfN l.length)))]
  else []
termination_by l.length
decreasing_by
  · have := half_lt l.length h; simp; omega
  · have := half_pos l.length; simp; omega
theorem pathL_right {l : List ByteArray} {i : Nat} (h : 1 < l.length) (hi : i < halfN l.length) : pathL H l i = pathL H (l.take (halfN l.length)) i ++ [H (topL H (l.drop (halfN l.length)))] := by
  rw [pathL, dif_pos h, if_pos hi]
theorem pathL_left {l : List ByteArray} {i : Nat} (h : 1 < l.length) (hi : ¬ i < halfN l.length) : pathL H l i = pathL H (l.drop (halfN l.length)) (i - halfN l.length) ++ [H (topL H (l.take (halfN l.length)))] := by
  rw [pathL, dif_pos h, if_neg hi]
theorem pathL_nil {l : List ByteArray} {i : Nat} (h : ¬ 1 < l.length) : pathL H l i = [] := by
  rw [pathL, dif_neg h]
/-- A part of a row. -/
def part (l : List ByteArray) (a b : Nat) : List ByteArray := (l.drop a).take (b - a)
theorem part_length (l : List ByteArray) (a b : Nat) (h : b ≤ l.length) (hab : a ≤ b) : (part l a b).length = b - a := by
  simp [part]; omega
theorem part_take (l : List ByteArray) (a b k : Nat) (h : a + k ≤ b) : (part l a b).take k = part l a (a + k) := by
  unfold part
  rw [List.take_take]
  congr 1
  omega
theorem part_drop (l : List ByteArray) (a b k : Nat) (h : a + k ≤ b) : (part l a b).drop k = part l (a + k) b := by
  unfold part
  rw [List.drop_take, List.drop_drop]
  congr 1
  omega
theorem crownL_ne {l : List ByteArray} (h : l ≠ []) : crownL H l = H (topL H l) := by unfold crownL; rw [if_neg h]
theorem part_ne (l : List ByteArray) (a b : Nat) (h : b ≤ l.length) (hab : a < b) : part l a b ≠ [] := by
  intro e
  have := part_length l a b h (by omega)
  rw [e] at this
  simp at this
  omega
/-- A path is the crowns of the way's sides, the lowest first. -/
theorem path_way (l : List ByteArray) : ∀ (n lo i : Nat), lo + n ≤ l.length → lo ≤ i → i < lo + n →
    ((wayL lo n i).map fun s => crownL H (part l s.2.1 s.2.2)).reverse = pathL H (part l lo (lo + n)) (i - lo) := by
  intro n
  induction n using Nat.strongRecOn with
  | ind n ih =>
    intro lo i hl h0 h1
    have hlen : (part l lo (lo + n)).length = n := by rw [part_length _ _ _ hl (by omega)]; omega
    by_cases hn : 1 < n
    · have hp := half_pos n; have hlt := half_lt n hn
      by_cases hi : i < lo + halfN n
      · rw [wayL_right hn hi, pathL_right H (by omega) (by rw [hlen]; omega), hlen, part_take _ _ _ _ (by omega), part_drop _ _ _ _ (by omega), List.map_cons, List.reverse_cons, ih (halfN n) hlt lo i (by omega) h0 hi]
        dsimp only
        rw [crownL_ne H (part_ne l (lo + halfN n) (lo + n) hl (by omega))]
      · rw [wayL_left hn hi, pathL_left H (by omega) (by rw [hlen]; omega), hlen, part_take _ _ _ _ (by omega), part_drop _ _ _ _ (by omega), List.map_cons, List.reverse_cons, ih (n - halfN n) (by omega) (lo + halfN n) i (by omega) (by omega) (by omega)]
        dsimp only
        rw [crownL_ne H (part_ne l lo (lo + halfN n) (by omega) (by omega)), show lo + halfN n + (n - halfN n) = lo + n by omega, show i - lo - halfN n = i - (lo + halfN n) by omega]
    · rw [wayL_nil hn, pathL_nil H (by omega)]
      rfl
theorem part_all (l : List ByteArray) : part l 0 l.length = l := by simp [part]
theorem path_way0 (l : List ByteArray) (i : Nat) (h : i < l.length) : ((wayL 0 l.length i).map fun s => crownL H (part l s.2.1 s.2.2)).reverse = pathL H l i := by
  have := path_way H l l.length 0 i (by omega) (by omega) (by omega)
  rw [Nat.zero_add, part_all, Nat.sub_zero] at this
  exact this
/-- The sides' places. -/
theorem way_in : ∀ (n lo i : Nat), lo ≤ i → i < lo + n → ∀ s ∈ wayL lo n i, lo ≤ s.2.1 ∧ s.2.1 < s.2.2 ∧ s.2.2 ≤ lo + n := by
  intro n
  induction n using Nat.strongRecOn with
  | ind n ih =>
    intro lo i h0 h1 s hs
    by_cases hn : 1 < n
    · have hp := half_pos n; have hlt := half_lt n hn
      by_cases hi : i < lo + halfN n
      · rw [wayL_right hn hi] at hs
        rcases List.mem_cons.1 hs with rfl | hs
        · simp; omega
        · have := ih (halfN n) hlt lo i h0 hi s hs
          omega
      · rw [wayL_left hn hi] at hs
        rcases List.mem_cons.1 hs with rfl | hs
        · simp; omega
        · have := ih (n - halfN n) (by omega) (lo + halfN n) i (by omega) (by omega) s hs
          omega
    · rw [wayL_nil hn] at hs
      cases hs
/-- No way has more sides than doublings. -/
theorem way_le : ∀ (c n lo i : Nat), n ≤ 2 ^ c → (wayL lo n i).length ≤ c := by
  intro c
  induction c with
  | zero => 
    intro n lo i h
    rw [wayL_nil (by simp at h; omega)]
    simp
  | succ c ih =>
    intro n lo i h
    by_cases hn : 1 < n
    · have hp := half_pos n; have hlt := half_lt n hn; have hg := half_ge n
      have hc : halfN n ≤ 2 ^ c := by
        obtain ⟨j, hj⟩ := half_pow n
        rw [hj] at hlt ⊢
        have : j < c + 1 := (Nat.pow_lt_pow_iff_right (by omega)).1 (Nat.lt_of_lt_of_le hlt h)
        exact Nat.pow_le_pow_right (by omega) (by omega)
      by_cases hi : i < lo + halfN n
      · rw [wayL_right hn hi, List.length_cons]
        have := ih (halfN n) lo i hc
        omega
      · rw [wayL_left hn hi, List.length_cons]
        have := ih (n - halfN n) (lo + halfN n) i (by omega)
        omega
    · rw [wayL_nil hn]
      simp
theorem way_pos {n lo i : Nat} (h : 1 < n) : 0 < (wayL lo n i).length := by
  by_cases hi : i < lo + halfN n
  · rw [wayL_right h hi]; simp
  · rw [wayL_left h hi]; simp

/-! ### Climbs -/
def stepB (r : Bool) (own p : ByteArray) : ByteArray := if r then nodeB own p else nodeB p own
def lastB (l : List ByteArray) : ByteArray := l.getLastD ByteArray.empty
/-- The inputs, from the leaf on, the rounds of the sides' rights and the path's sums. -/
def climbF : List Bool → List ByteArray → List ByteArray → List ByteArray
  | r :: rs, p :: ps, out => climbF rs ps (out ++ [stepB r (H (lastB out)) p])
  | _, _, out => out
theorem climbF_snoc : ∀ (rs : List Bool) (ps : List ByteArray) (r : Bool) (p : ByteArray) (out : List ByteArray), rs.length = ps.length →
    climbF H (rs ++ [r]) (ps ++ [p]) out = climbF H rs ps out ++ [stepB r (H (lastB (climbF H rs ps out))) p]
  | [], [], r, p, out, _ => rfl
  | a :: rs, b :: ps, r, p, out, h => by
    rw [List.cons_append, List.cons_append, climbF, climbF_snoc rs ps r p _ (by simpa using h), climbF]
theorem climbF_length : ∀ (rs : List Bool) (ps : List ByteArray) (out : List ByteArray), rs.length = ps.length → (climbF H rs ps out).length = out.length + rs.length
  | [], [], out, _ => by simp [climbF]
  | a :: rs, b :: ps, out, h => by
    rw [climbF, climbF_length rs ps _ (by simpa using h)]
    simp
    omega
def rights (lo n i : Nat) : List Bool := ((wayL lo n i).map (·.1)).reverse
theorem lastB_snoc (l : List ByteArray) (x : ByteArray) : lastB (l ++ [x]) = x := by simp [lastB]
theorem rights_right {lo n i : Nat} (h : 1 < n) (hi : i < lo + halfN n) : rights lo n i = rights lo (halfN n) i ++ [true] := by
  unfold rights; rw [wayL_right h hi]; simp
theorem rights_left {lo n i : Nat} (h : 1 < n) (hi : ¬ i < lo + halfN n) : rights lo n i = rights (lo + halfN n) (n - halfN n) i ++ [false] := by
  unfold rights; rw [wayL_left h hi]; simp
theorem rights_length (lo n i : Nat) : (rights lo n i).length = (wayL lo n i).length := by simp [rights]
/-- The document's inputs. -/
def inputsL (n i : Nat) (s : ByteArray) (path : List ByteArray) : Option (List ByteArray) :=
  if h : 1 < n then
    if path = [] then none
    else if i < halfN n then (inputsL (halfN n) i s path.dropLast).map fun l => l ++ [nodeB (H (lastB l)) (lastB path)]
    else (inputsL (n - halfN n) (i - halfN n) s path.dropLast).map fun l => l ++ [nodeB (lastB path) (H (lastB l))]
  else if path = [] then some [leafB s] else none
termination_by n
decreasing_by
  · exact half_lt n h
  · have := half_pos n; omega
theorem snoc_of {path : List ByteArray} (h : path ≠ []) : path = path.dropLast ++ [lastB path] := by
  unfold lastB
  rw [List.getLastD_eq_getLast?, List.getLast?_eq_some_getLast h]
  exact (List.dropLast_concat_getLast h).symm
theorem inputs_climb (s : ByteArray) : ∀ (n lo i : Nat) (path : List ByteArray), lo ≤ i → i < lo + n →
    inputsL H n (i - lo) s path = if path.length = (wayL lo n i).length then some (climbF H (rights lo n i) path [leafB s]) else none := by
  intro n
  induction n using Nat.strongRecOn with
  | ind n ih =>
    intro lo i path h0 h1
    unfold inputsL
    by_cases hn : 1 < n
    · have hp := half_pos n; have hlt := half_lt n hn
      rw [dif_pos hn]
      by_cases he : path = []
      · subst he
        rw [if_pos rfl, if_neg (by have := way_pos (lo := lo) (i := i) hn; simp; omega)]
      · rw [if_neg he]
        have hs := snoc_of he
        have hl : path.length = path.dropLast.length + 1 := by
          have := congrArg List.length hs
          simpa using this
        by_cases hi : i < lo + halfN n
        · rw [if_pos (by omega), ih (halfN n) hlt lo i _ h0 hi, rights_right hn hi, wayL_right hn hi, List.length_cons, hl]
          by_cases hx : path.dropLast.length = (wayL lo (halfN n) i).length
          · rw [if_pos hx, if_pos (by omega)]
            conv => rhs; rw [hs]
            rw [climbF_snoc H _ _ _ _ _ (by rw [rights_length, hx])]
            rfl
          · rw [if_neg hx, if_neg (by omega)]
            rfl
        · rw [if_neg (by omega), show i - lo - halfN n = i - (lo + halfN n) by omega, ih (n - halfN n) (by omega) (lo + halfN n) i _ (by omega) (by omega), rights_left hn hi, wayL_left hn hi, List.length_cons, hl]
          by_cases hx : path.dropLast.length = (wayL (lo + halfN n) (n - halfN n) i).length
          · rw [if_pos hx, if_pos (by omega)]
            conv => rhs; rw [hs]
            rw [climbF_snoc H _ _ _ _ _ (by rw [rights_length, hx])]
            rfl
          · rw [if_neg hx, if_neg (by omega)]
            rfl
    · rw [dif_neg hn]
      unfold rights
      rw [wayL_nil hn]
      cases path with
      | nil => simp [climbF]
      | cons p ps => simp
/-- What Path tells, climbs to the crown's input. -/
theorem inputs_path (s : ByteArray) : ∀ (n : Nat) (l : List ByteArray) (i : Nat), l.length = n → i < n → l.getD i ByteArray.empty = s →
    ∃ L, inputsL H n i s (pathL H l i) = some L ∧ lastB L = topL H l := by
  intro n
  induction n using Nat.strongRecOn with
  | ind n ih =>
    intro l i hl hi hs
    unfold inputsL
    by_cases hn : 1 < n
    · have hp := half_pos n; have hlt := half_lt n hn
      rw [dif_pos hn]
      by_cases hc : i < halfN n
      · rw [pathL_right H (by omega) (by rw [hl]; exact hc), hl, if_neg (by simp), if_pos hc, List.dropLast_concat, lastB_snoc]
        obtain ⟨L, h1, h2⟩ := ih (halfN n) hlt (l.take (halfN n)) i (by simp; omega) hc (by rw [List.getD_eq_getElem?_getD, List.getElem?_take_of_lt hc, ← List.getD_eq_getElem?_getD]; exact hs)
        rw [h1]
        exact ⟨_, rfl, by rw [lastB_snoc, h2, topL_two H l (by omega), hl]⟩
      · rw [pathL_left H (by omega) (by rw [hl]; exact hc), hl, if_neg (by simp), if_neg hc, List.dropLast_concat, lastB_snoc]
        obtain ⟨L, h1, h2⟩ := ih (n - halfN n) (by omega) (l.drop (halfN n)) (i - halfN n) (by simp; omega) (by omega) (by rw [List.getD_eq_getElem?_getD, List.getElem?_drop, show halfN n + (i - halfN n) = i by omega, ← List.getD_eq_getElem?_getD]; exact hs)
        rw [h1]
        exact ⟨_, rfl, by rw [lastB_snoc, h2, topL_two H l (by omega), hl]⟩
    · rw [dif_neg hn, pathL_nil H (by omega), if_pos rfl]
      obtain ⟨x, rfl⟩ := List.length_eq_one_iff.1 (show l.length = 1 by omega)
      refine ⟨_, rfl, ?_⟩
      rw [topL_one]
      obtain rfl : i = 0 := by omega
      subst hs
      rfl

/-! ### What is given away -/
/-- Two texts, if they are unlike and have one sum. -/
def unlikeL (a b : ByteArray) : Option (ByteArray × ByteArray) := if a = b then none else if H a = H b then some (a, b) else none
theorem unlike_good {a b x y : ByteArray} (h : unlikeL H a b = some (x, y)) : x ≠ y ∧ H x = H y := by
  unfold unlikeL at h
  by_cases h1 : a = b
  · rw [if_pos h1] at h; cases h
  · rw [if_neg h1] at h
    by_cases h2 : H a = H b
    · rw [if_pos h2] at h
      obtain ⟨rfl, rfl⟩ := Prod.mk.inj (Option.some.inj h)
      exact ⟨h1, h2⟩
    · rw [if_neg h2] at h; cases h
theorem unlike_some {a b : ByteArray} (h1 : a ≠ b) (h2 : H a = H b) : unlikeL H a b = some (a, b) := by
  unfold unlikeL
  rw [if_neg h1, if_pos h2]
/-- The first unlike inputs, the roots ahead. -/
def scanL : List ByteArray → List ByteArray → Option (ByteArray × ByteArray)
  | x :: xs, y :: ys => if x = y then scanL xs ys else unlikeL H x y
  | _, _ => none
theorem scan_good : ∀ (xs ys : List ByteArray) (x y : ByteArray), scanL H xs ys = some (x, y) → x ≠ y ∧ H x = H y
  | a :: xs, b :: ys, x, y, h => by
    rw [scanL] at h
    by_cases h1 : a = b
    · rw [if_pos h1] at h
      exact scan_good xs ys x y h
    · rw [if_neg h1] at h
      exact unlike_good H h
  | [], _, x, y, h => by cases h
  | _ :: _, [], x, y, h => by cases h
theorem app_inj {a b c d : ByteArray} (hs : a.size = c.size) (h : a ++ b = c ++ d) : a = c ∧ b = d := by
  have h2 : (a ++ b).data.toList = (c ++ d).data.toList := by rw [h]
  rw [ByteArray.data_append, ByteArray.data_append, Array.toList_append, Array.toList_append] at h2
  obtain ⟨h3, h4⟩ := List.append_inj h2 (by rw [Array.length_toList, Array.length_toList]; exact hs)
  exact ⟨ByteArray.ext (Array.toList_inj.1 h3), ByteArray.ext (Array.toList_inj.1 h4)⟩
theorem leaf_inj {a b : ByteArray} (h : leafB a = leafB b) : a = b := (app_inj rfl h).2
theorem node_inj {a b c d : ByteArray} (hs : a.size = c.size) (h : nodeB a b = nodeB c d) : a = c ∧ b = d := by
  unfold nodeB at h
  rw [ByteArray.append_assoc, ByteArray.append_assoc] at h
  exact app_inj hs (app_inj rfl h).2
variable (h32 : ∀ x, (H x).size = 32)
include h32
theorem step_inj {r : Bool} {a b p q : ByteArray} (hp : p.size = 32) (hq : q.size = 32) (h : stepB r (H a) p = stepB r (H b) q) : H a = H b := by
  cases r
  · exact (node_inj (by rw [hp, hq]) h).2
  · exact (node_inj (by rw [h32, h32]) h).1
theorem climb_clash (a b : ByteArray) (hab : a ≠ b) : ∀ (m : Nat) (rs : List Bool) (ps qs : List ByteArray), rs.length = m → ps.length = m → qs.length = m →
    (∀ p ∈ ps, p.size = 32) → (∀ q ∈ qs, q.size = 32) → H (lastB (climbF H rs ps [leafB a])) = H (lastB (climbF H rs qs [leafB b])) →
    ∃ t, scanL H (climbF H rs ps [leafB a]).reverse (climbF H rs qs [leafB b]).reverse = some t
  | 0, rs, ps, qs, h1, h2, h3, _, _, hh => by
    obtain rfl := List.eq_nil_of_length_eq_zero h1
    obtain rfl := List.eq_nil_of_length_eq_zero h2
    obtain rfl := List.eq_nil_of_length_eq_zero h3
    have hn : leafB a ≠ leafB b := fun h => hab (leaf_inj h)
    refine ⟨(leafB a, leafB b), ?_⟩
    show (if leafB a = leafB b then _ else unlikeL H (leafB a) (leafB b)) = _
    rw [if_neg hn]
    exact unlike_some H hn hh
  | m + 1, rs, ps, qs, h1, h2, h3, hp, hq, hh => by
    obtain ⟨rs, r, rfl⟩ := (List.eq_nil_or_concat rs).resolve_left (by rintro rfl; simp at h1)
    obtain ⟨ps, p, rfl⟩ := (List.eq_nil_or_concat ps).resolve_left (by rintro rfl; simp at h2)
    obtain ⟨qs, q, rfl⟩ := (List.eq_nil_or_concat qs).resolve_left (by rintro rfl; simp at h3)
    simp only [List.concat_eq_append] at *
    have e1 : rs.length = m := by simpa using h1
    have e2 : ps.length = m := by simpa using h2
    have e3 : qs.length = m := by simpa using h3
    rw [climbF_snoc H _ _ _ _ _ (by omega), climbF_snoc H _ _ _ _ _ (by omega)] at hh ⊢
    rw [lastB_snoc, lastB_snoc] at hh
    rw [List.reverse_append, List.reverse_append]
    show ∃ t, (if stepB r _ p = stepB r _ q then scanL H (climbF H rs ps [leafB a]).reverse (climbF H rs qs [leafB b]).reverse else unlikeL H _ _) = some t
    by_cases he : stepB r (H (lastB (climbF H rs ps [leafB a]))) p = stepB r (H (lastB (climbF H rs qs [leafB b]))) q
    · rw [if_pos he]
      exact climb_clash a b hab m rs ps qs e1 e2 e3 (fun x hx => hp x (by simp [hx])) (fun x hx => hq x (by simp [hx])) (step_inj H h32 (hp p (by simp)) (hq q (by simp)) he)
    · rw [if_neg he]
      exact ⟨_, unlike_some H he hh⟩
omit h32 in
/-- Two unlike texts out of two rows of as many texts. -/
def crownsL (a b : List ByteArray) : Option (ByteArray × ByteArray) :=
  if topL H a = topL H b then
    if h : 1 < a.length then
      (crownsL (a.take (halfN a.length)) (b.take (halfN a.length))).or (crownsL (a.drop (halfN a.length)) (b.drop (halfN a.length)))
    else none
  else unlikeL H (topL H a) (topL H b)
termination_by a.length
decreasing_by
  · have := half_lt a.length h; simp; omega
  · have := half_pos a.length; simp; omega
omit h32 in
theorem crowns_good : ∀ (n : Nat) (a b : List ByteArray) (x y : ByteArray), a.length = n → crownsL H a b = some (x, y) → x ≠ y ∧ H x = H y := by
  intro n
  induction n using Nat.strongRecOn with
  | ind n ih =>
    intro a b x y hn h
    unfold crownsL at h
    by_cases h1 : topL H a = topL H b
    · rw [if_pos h1] at h
      by_cases h2 : 1 < a.length
      · have hp := half_pos a.length; have hlt := half_lt a.length h2
        rw [dif_pos h2] at h
        cases hc : crownsL H (a.take (halfN a.length)) (b.take (halfN a.length)) with
        | some t =>
          rw [hc] at h
          obtain rfl := Option.some.inj h
          exact ih (halfN a.length) (by omega) _ _ x y (by rw [List.length_take]; omega) hc
        | none =>
          rw [hc] at h
          exact ih (a.length - halfN a.length) (by omega) _ _ x y (by simp) h
      · rw [dif_neg h2] at h
        cases h
    · rw [if_neg h1] at h
      exact unlike_good H h
theorem crowns_some : ∀ (n : Nat) (a b : List ByteArray), a.length = n → b.length = n → 0 < n → a ≠ b → H (topL H a) = H (topL H b) → ∃ t, crownsL H a b = some t := by
  intro n
  induction n using Nat.strongRecOn with
  | ind n ih =>
    intro a b hn hm h0 hab hh
    unfold crownsL
    by_cases h1 : topL H a = topL H b
    · rw [if_pos h1]
      by_cases h2 : 1 < a.length
      · have hp := half_pos a.length; have hlt := half_lt a.length h2
        rw [dif_pos h2]
        rw [topL_two H a h2, topL_two H b (by omega)] at h1
        obtain ⟨g1, g2⟩ := node_inj (by rw [h32, h32]) h1
        rw [hm, ← hn] at g1 g2
        cases hc : crownsL H (a.take (halfN a.length)) (b.take (halfN a.length)) with
        | some t => exact ⟨t, rfl⟩
        | none =>
          by_cases ht : a.take (halfN a.length) = b.take (halfN a.length)
          · have hd : a.drop (halfN a.length) ≠ b.drop (halfN a.length) := fun e => hab (by rw [← List.take_append_drop (halfN a.length) a, ht, e, List.take_append_drop])
            exact ih (a.length - halfN a.length) (by omega) _ _ (by simp) (by simp; omega) (by omega) hd g2
          · obtain ⟨t, h⟩ := ih (halfN a.length) (by omega) _ _ (by simp; omega) (by simp; omega) (by omega) ht g1
            rw [h] at hc
            cases hc
      · rw [dif_neg h2]
        exfalso
        obtain ⟨x, rfl⟩ := List.length_eq_one_iff.1 (show a.length = 1 by omega)
        obtain ⟨y, rfl⟩ := List.length_eq_one_iff.1 (show b.length = 1 by omega)
        rw [topL_one, topL_one] at h1
        exact hab (by rw [leaf_inj h1])
    · rw [if_neg h1]
      exact ⟨_, unlike_some H h1 hh⟩
end
end Go.Proofs.YtlcmpmodfkmfnaaDoor.TM
