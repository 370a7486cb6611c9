/- TREES OF SUMS, IN PLAIN LEAN: halves, tops, ways, paths, climbs; no program in sight. · tree.half: the greatest power of two below a number; in the form that the print takes. · tree.leaf, tree.node (the part of XTop that does not need tree.top). · lump.Num: a number's bytes; in the form that the print takes. -/
import Derived.RowKit
import Derived.Test.YtjlpjpjodhkpdaaGreatDoorBase
import Derived.Test.YtjlpjpjodhkpdaaGreatDoorWWords
import Derived.Lib.Hide
import Derived.WalkSpells
import Derived.Test.YtjlpjpjodhkpdaaGreatDoorSumM
import Derived.Laws.EntriesVeiled
set_option maxHeartbeats 1000000
set_option maxRecDepth 100000
set_option linter.unusedVariables false
set_option linter.unusedSimpArgs false
namespace Go.Proofs.YtjlpjpjodhkpdaaGreatDoor.TM
def halfFrom (k n : Nat) : Nat := if 0 < k ∧ 2 * k < n then halfFrom (2 * k) n else k
termination_by n - k
def halfN (n : Nat) : Nat := halfFrom 1 n
theorem halfFrom_spec (k n : Nat) (hk : 0 < k) : k ≤ halfFrom k n ∧ n ≤ 2 * halfFrom k n ∧ (k < n → halfFrom k n < n) ∧ ∃ j, halfFrom k n = k * 2 ^ j := by
 induction h : n - k using Nat.strongRecOn generalizing k with
 | ind d ih =>
   unfold halfFrom
   by_cases hc : 0 < k ∧ 2 * k < n
   · rw [if_pos hc]
     obtain ⟨h1, h2, h3, j, h4⟩ := ih (n - 2 * k) (by omega) (2 * k) (by omega) rfl
     exact ⟨by omega, h2, fun _ => h3 hc.2, j + 1, by rw [h4, Nat.pow_succ, Nat.mul_comm 2 k, Nat.mul_assoc, Nat.mul_comm 2 (2 ^ j)]⟩
   · rw [if_neg hc]
     exact ⟨Nat.le_refl _, by omega, fun h => h, 0, by simp⟩
theorem half_pos (n : Nat) : 1 ≤ halfN n := (halfFrom_spec 1 n (by omega)).1
theorem half_lt (n : Nat) (h : 1 < n) : halfN n < n := (halfFrom_spec 1 n (by omega)).2.2.1 h
theorem half_ge (n : Nat) : n ≤ 2 * halfN n := (halfFrom_spec 1 n (by omega)).2.1
theorem half_pow (n : Nat) : ∃ j, halfN n = 2 ^ j := by
 obtain ⟨j, h⟩ := (halfFrom_spec 1 n (by omega)).2.2.2
 exact ⟨j, by unfold halfN; rw [h]; simp⟩
def leafB (s : ByteArray) : ByteArray := (⟨#[0]⟩ : ByteArray) ++ s
def nodeB (a b : ByteArray) : ByteArray := ((⟨#[1]⟩ : ByteArray) ++ a) ++ b
section
variable (H : ByteArray → ByteArray)
def topL (l : List ByteArray) : ByteArray :=
 if h : 1 < l.length then nodeB (H (topL (l.take (halfN l.length)))) (H (topL (l.drop (halfN l.length)))) else leafB (l.headD ByteArray.empty)
termination_by l.length
decreasing_by
 · have := half_lt l.length h; simp; omega
 · have := half_pos l.length; simp; omega
theorem topL_one (s : ByteArray) : topL H [s] = leafB s := by
 unfold topL
 rw [dif_neg (by simp)]
 rfl
theorem topL_two (l : List ByteArray) (h : 1 < l.length) : topL H l = nodeB (H (topL H (l.take (halfN l.length)))) (H (topL H (l.drop (halfN l.length)))) := by
 rw [topL, dif_pos h]
def wayL (lo n i : Nat) : List (Bool × Nat × Nat) :=
 if h : 1 < n then
  if i < lo + halfN n then (true, lo + halfN n, lo + n) :: wayL lo (halfN n) i
  else (false, lo, lo + halfN n) :: wayL (lo + halfN n) (n - halfN n) i
 else []
termination_by n
decreasing_by
 · exact half_lt n h
 · have := half_pos n; omega
theorem wayL_right {lo n i : Nat} (h : 1 < n) (hi : i < lo + halfN n) : wayL lo n i = (true, lo + halfN n, lo + n) :: wayL lo (halfN n) i := by
 rw [wayL, dif_pos h, if_pos hi]
theorem wayL_left {lo n i : Nat} (h : 1 < n) (hi : ¬ i < lo + halfN n) : wayL lo n i = (false, lo, lo + halfN n) :: wayL (lo + halfN n) (n - halfN n) i := by
 rw [wayL, dif_pos h, if_neg hi]
theorem wayL_nil {lo n i : Nat} (h : ¬ 1 < n) : wayL lo n i = [] := by
 rw [wayL, dif_neg h]
def part (l : List ByteArray) (a b : Nat) : List ByteArray := (l.drop a).take (b - a)
theorem way_in : ∀ (n lo i : Nat), lo ≤ i → i < lo + n → ∀ s ∈ wayL lo n i, lo ≤ s.2.1 ∧ s.2.1 < s.2.2 ∧ s.2.2 ≤ lo + n := by
 intro n
 induction n using Nat.strongRecOn with
 | ind n ih =>
   intro lo i h0 h1 s hs
   by_cases hn : 1 < n
   · have hp := half_pos n; have hlt := half_lt n hn
     by_cases hi : i < lo + halfN n
     · rw [wayL_right hn hi] at hs
       rcases List.mem_cons.1 hs with rfl | hs
       · simp; omega
       · have := ih (halfN n) hlt lo i h0 hi s hs
         omega
     · rw [wayL_left hn hi] at hs
       rcases List.mem_cons.1 hs with rfl | hs
       · simp; omega
       · have := ih (n - halfN n) (by omega) (lo + halfN n) i (by omega) (by omega) s hs
         omega
   · rw [wayL_nil hn] at hs
     cases hs
theorem way_le : ∀ (c n lo i : Nat), n ≤ 2 ^ c → (wayL lo n i).length ≤ c := by
 intro c
 induction c with
 | zero => 
   intro n lo i h
   rw [wayL_nil (by simp at h; omega)]
   simp
 | succ c ih =>
   intro n lo i h
   by_cases hn : 1 < n
   · have hp := half_pos n; have hlt := half_lt n hn; have hg := half_ge n
     have hc : halfN n ≤ 2 ^ c := by
      obtain ⟨j, hj⟩ := half_pow n
      rw [hj] at hlt ⊢
      have : j < c + 1 := (Nat.pow_lt_pow_iff_right (by omega)).1 (Nat.lt_of_lt_of_le hlt h)
      exact Nat.pow_le_pow_right (by omega) (by omega)
     by_cases hi : i < lo + halfN n
     · rw [wayL_right hn hi, List.length_cons]
       have := ih (halfN n) lo i hc
       omega
     · rw [wayL_left hn hi, List.length_cons]
       have := ih (n - halfN n) (lo + halfN n) i (by omega)
       omega
   · rw [wayL_nil hn]
     simp
def stepB (r : Bool) (own p : ByteArray) : ByteArray := if r then nodeB own p else nodeB p own
def lastB (l : List ByteArray) : ByteArray := l.getLastD ByteArray.empty
def climbF : List Bool → List ByteArray → List ByteArray → List ByteArray
 | r :: rs, p :: ps, out => climbF rs ps (out ++ [stepB r (H (lastB out)) p])
 | _, _, out => out
theorem climbF_snoc : ∀ (rs : List Bool) (ps : List ByteArray) (r : Bool) (p : ByteArray) (out : List ByteArray), rs.length = ps.length →
 climbF H (rs ++ [r]) (ps ++ [p]) out = climbF H rs ps out ++ [stepB r (H (lastB (climbF H rs ps out))) p]
 | [], [], r, p, out, _ => rfl
 | a :: rs, b :: ps, r, p, out, h => by
   rw [List.cons_append, List.cons_append, climbF, climbF_snoc rs ps r p _ (by simpa using h), climbF]
theorem climbF_length : ∀ (rs : List Bool) (ps : List ByteArray) (out : List ByteArray), rs.length = ps.length → (climbF H rs ps out).length = out.length + rs.length
 | [], [], out, _ => by simp [climbF]
 | a :: rs, b :: ps, out, h => by
   rw [climbF, climbF_length rs ps _ (by simpa using h)]
   simp
   omega
def rights (lo n i : Nat) : List Bool := ((wayL lo n i).map (·.1)).reverse
theorem lastB_snoc (l : List ByteArray) (x : ByteArray) : lastB (l ++ [x]) = x := by simp [lastB]
theorem rights_right {lo n i : Nat} (h : 1 < n) (hi : i < lo + halfN n) : rights lo n i = rights lo (halfN n) i ++ [true] := by
 unfold rights; rw [wayL_right h hi]; simp
theorem rights_left {lo n i : Nat} (h : 1 < n) (hi : ¬ i < lo + halfN n) : rights lo n i = rights (lo + halfN n) (n - halfN n) i ++ [false] := by
 unfold rights; rw [wayL_left h hi]; simp
theorem rights_length (lo n i : Nat) : (rights lo n i).length = (wayL lo n i).length := by simp [rights]
theorem snoc_of {path : List ByteArray} (h : path ≠ []) : path = path.dropLast ++ [lastB path] := by
 unfold lastB
 rw [List.getLastD_eq_getLast?, List.getLast?_eq_some_getLast h]
 exact (List.dropLast_concat_getLast h).symm
variable (h32 : ∀ x, (H x).size = 32)
include h32
omit h32 in
omit h32 in
end
end Go.Proofs.YtjlpjpjodhkpdaaGreatDoor.TM
namespace Go.Proofs.YtjlpjpjodhkpdaaGreatDoor
open Go.RowKit Go.Proofs.YtjlpjpjodhkpdaaGreatDoorW.PrintWords
def tree_half.f (n : Int) : Option Int := if 0 ≤ n ∧ n ≤ 2305843009213693952 then some (TM.halfN n.toNat : Int) else none
theorem half_any (n : Nat) (hn : n ≤ 2305843009213693952) (w : World) :
 Calls Tryz.prog 133 #[.int .i64 (n : Int)] w fun e w' => e = .returned (.int .i64 (TM.halfN n : Int)) ∧ Below w.heap.size w w' := by
 have hB := Below.refl w.heap.size w
 obtain ⟨r, hr⟩ : ∃ r, r = TM.halfN n := ⟨_, rfl⟩
 rw [← hr]
 have HR : Hid (TM.halfFrom 1 n = r) := Lib.hid hr.symm
 clear hr
 go_enter Tryz.func133, Tryz.ntmps133
 go_wp2
 go_loopw [3] (fun x u => ∃ j : Nat, 0 < j ∧ j ≤ n + 1 ∧ x = .int .i64 (j : Int) ∧ Hid (TM.halfFrom j n = r) ∧ Below w.heap.size w u) (fun x _ => n + 1 - (intOf x).toNat)
 case atStart => exact ⟨1, by omega, by omega, rfl, HR, hB⟩
 case round =>
  clear hB HR
  obtain ⟨j, h0, hj, rfl, HR, hB⟩ := hrel
  have hE := HR.out
  rw [TM.halfFrom] at hE
  by_cases hc : 2 * j < n
  · rw [if_pos ⟨h0, hc⟩] at hE
    have HE := Lib.hid hE
    clear hE HR
    have hd : decide (2 * (j : Int) < (n : Int)) = true := by simp; omega
    go_wp2
    go_roundw
    case rel => exact ⟨2 * j, by omega, by omega, by go_num, HE, hB⟩
    case measure => simp [intOf]; omega
  · rw [if_neg (fun h => hc h.2)] at hE
    subst hE
    clear HR
    have hd : decide (2 * (j : Int) < (n : Int)) = false := by simp; omega
    go_wp2
    go_ret
    exact ⟨rfl, hB⟩
theorem tree_half.calls (a0 : Int) (r : Int) (w : World) (h : tree_half.f a0 = some r) :
 Calls Tryz.prog 133 #[.int .i64 a0] w fun e w' => e = .returned (.int .i64 r) ∧ Below w.heap.size w w' := by
 unfold tree_half.f at h
 by_cases hs : 0 ≤ a0 ∧ a0 ≤ 2305843009213693952
 · rw [if_pos hs] at h
   obtain rfl := Option.some.inj h
   have := half_any a0.toNat (by omega) w
   rw [Int.toNat_of_nonneg hs.1] at this
   exact this
 · rw [if_neg hs] at h
   cases h
end Go.Proofs.YtjlpjpjodhkpdaaGreatDoor
namespace Go.Proofs.YtjlpjpjodhkpdaaGreatDoor
open Go.RowKit Go.Proofs.YtjlpjpjodhkpdaaGreatDoorW.PrintWords
theorem leaf_any (s : ByteArray) (hs : s.size ≤ 562949953421311) (w : World) :
 Calls Tryz.prog 111 #[.string s] w fun e w' => e = .returned (.string (TM.leafB s)) ∧ Below w.heap.size w w' := by
 have hB := Below.refl w.heap.size w
 have h1 : 1 + s.size ≤ 9223372036854775807 := by omega
 have c1 := eq_true h1
 have c2 : (9223372036854775807 < 1 + s.size) = False := eq_false (Nat.not_lt.2 h1)
 unfold TM.leafB
 clear hs h1
 go_enter Tryz.func111, Tryz.ntmps111
 go_wp2
 go_ret
 exact ⟨rfl, hB⟩
theorem node_any (a b : ByteArray) (hs : a.size + b.size ≤ 562949953421311) (w : World) :
 Calls Tryz.prog 112 #[.string a, .string b] w fun e w' => e = .returned (.string (TM.nodeB a b)) ∧ Below w.heap.size w w' := by
 have hB := Below.refl w.heap.size w
 have h1 : 1 + a.size ≤ 9223372036854775807 := by omega
 have h2 : ((⟨#[1]⟩ : ByteArray) ++ a).size + b.size ≤ 9223372036854775807 := by
  rw [ByteArray.size_append]
  show 1 + a.size + b.size ≤ _
  omega
 have c1 := eq_true h1
 have c2 : (9223372036854775807 < 1 + a.size) = False := eq_false (Nat.not_lt.2 h1)
 have c3 := eq_true h2
 have c4 : (9223372036854775807 < ((⟨#[1]⟩ : ByteArray) ++ a).size + b.size) = False := eq_false (Nat.not_lt.2 h2)
 have c5 : (9223372036854775807 < 1 + a.size + b.size) = False := eq_false (by omega)
 unfold TM.nodeB
 clear hs h1 h2
 go_enter Tryz.func112, Tryz.ntmps112
 go_wp2
 go_ret
 exact ⟨rfl, hB⟩
theorem infoStr : (Tryz.prog.info? 9).map (fun i => (i.zero, i.size, i.bytes)) = some (some (.string ⟨#[]⟩), 1, 16) := by kernel_rfl
theorem top_size (l : List ByteArray) (h : ∀ s ∈ l, s.size ≤ 562949953421311) : (TM.topL sumB l).size ≤ 562949953421312 := by
 by_cases h1 : 1 < l.length
 · rw [TM.topL_two sumB l h1]
   unfold TM.nodeB
   rw [ByteArray.size_append, ByteArray.size_append, sumB_size, sumB_size]
   decide
 · rw [TM.topL, dif_neg h1]
   unfold TM.leafB
   rw [ByteArray.size_append]
   cases l with
   | nil => decide
   | cons s l =>
     have := h s (by simp)
     show 1 + s.size ≤ _
     omega
def tree_top.f (l : List ByteArray) : Option ByteArray := if (1 ≤ l.length ∧ l.length ≤ 2305843009213693952) ∧ ∀ s ∈ l, s.size ≤ 562949953421311 then some (TM.topL sumB l) else none
end Go.Proofs.YtjlpjpjodhkpdaaGreatDoor
namespace Go.Proofs.YtjlpjpjodhkpdaaGreatDoor
open Go.RowKit Go.Proofs.YtjlpjpjodhkpdaaGreatDoorW.PrintWords
def beL (v : Nat) : Nat → List Int
 | 0 => []
 | k + 1 => ((v / 256 ^ k % 256 : Nat) : Int) :: beL v k
theorem beL_length (v k : Nat) : (beL v k).length = k := by
 induction k with
 | zero => rfl
 | succ k ih => simp [beL, ih]
def nb (v : Nat) : Nat := if v < 1 then 0 else if v < 256 then 1 else if v < 65536 then 2 else if v < 16777216 then 3 else if v < 4294967296 then 4 else if v < 1099511627776 then 5 else if v < 281474976710656 then 6 else if v < 72057594037927936 then 7 else 8
def numL (v : Nat) : List Int := (nb v : Int) :: beL v (nb v)
def numB (v : Nat) : ByteArray := strOfNums (numL v)
theorem nb_le (v : Nat) : nb v ≤ 8 := by
 unfold nb
 repeat' split
 all_goals omega
def rowN (v i : Nat) : List Int := List.replicate (i + 1) 0 ++ beL v (8 - i)
theorem rowN_length (v i : Nat) (h : i ≤ 8) : (rowN v i).length = 9 := by
 simp [rowN, beL_length]; omega
theorem rowN_set (v i : Nat) (h : i < 8) : (rowN v (i + 1)).set (i + 1) ((v / 256 ^ (8 - (i + 1)) % 256 : Nat) : Int) = rowN v i := by
 have e : 8 - i = (8 - (i + 1)) + 1 := by omega
 unfold rowN
 rw [e, beL, List.replicate_succ' (n := i + 1), List.append_assoc, List.set_append_right _ _ (by simp)]
 simp
theorem rowN_end (v i : Nat) (h : i ≤ 8) (x : Int) : (rowN v i).set i x = List.replicate i 0 ++ x :: beL v (8 - i) := by
 unfold rowN
 rw [List.replicate_succ', List.append_assoc, List.set_append_right _ _ (by simp)]
 simp
theorem nb_of (v i : Nat) (hv : v < 18446744073709551616) (h : i ≤ 8) (h0 : v / 256 ^ (8 - i) = 0) (h1 : i < 8 → 0 < v / 256 ^ (8 - i - 1)) : 8 - i = nb v := by
 unfold nb
 rcases (show i = 0 ∨ i = 1 ∨ i = 2 ∨ i = 3 ∨ i = 4 ∨ i = 5 ∨ i = 6 ∨ i = 7 ∨ i = 8 by omega) with rfl | rfl | rfl | rfl | rfl | rfl | rfl | rfl | rfl
 all_goals
  simp only [Nat.reduceSub, Nat.reducePow, Nat.reduceLT, forall_const, Nat.lt_irrefl, false_implies] at h0 h1
  repeat' split
  all_goals omega
theorem div_next (v i : Nat) (h : i < 8) : v / 256 ^ (8 - (i + 1)) / 256 = v / 256 ^ (8 - i) := by
 rw [Nat.div_div_eq_div_mul, ← Nat.pow_succ, show Nat.succ (8 - (i + 1)) = 8 - i by omega]
theorem add_at (g i j : Nat) : (⟨g, i, none⟩ : Addr).add j = ⟨g, i + j, none⟩ := by unfold Addr.add; split <;> simp_all
theorem num_any (v : Nat) (hv : v < 18446744073709551616) (w : World) :
 Calls Tryz.prog 134 #[.int .u64 v] w fun e w' => e = .returned (.string (numB v)) ∧ Below w.heap.size w w' := by
 have HV := Lib.hid hv
 clear hv
 go_enter Tryz.func134, Tryz.ntmps134
 go_wp2
 have hR := RowIs.new w 183 (u8s (rowN v 8))
 have hB := (Below.refl w.heap.size w).alloc (Nat.le_refl _) (.cells (u8s (rowN v 8)).toArray 183)
 have e0 : (u8s (rowN v 8)).toArray = #[.int .u8 0, .int .u8 0, .int .u8 0, .int .u8 0, .int .u8 0, .int .u8 0, .int .u8 0, .int .u8 0, .int .u8 0] := rfl
 rw [e0] at hR hB
 clear e0
 generalize World.alloc _ _ = W at *
 have hp0 : Hid ((8 : Nat) < 8 → 0 < v / 256 ^ (8 - 8 - 1)) := Lib.hid (fun h => absurd h (by omega))
 go_loopw [0, 4] (fun x c u => ∃ i : Nat, i ≤ 8 ∧ x = .int .u64 ((v / 256 ^ (8 - i) : Nat) : Int) ∧ c = .int .i64 ((i : Int) + 1) ∧ Hid (i < 8 → 0 < v / 256 ^ (8 - i - 1)) ∧ RowIs u w.heap.size 183 (u8s (rowN v i)) ∧ Below w.heap.size w u) (fun _ c _ => (intOf c).toNat)
 case atStart => exact ⟨8, by omega, by simp, rfl, hp0, hR, hB⟩
 case round =>
  clear hR hB hp0
  obtain ⟨i, hi, rfl, rfl, hp, hR, hB⟩ := hrel
  by_cases h0 : v / 256 ^ (8 - i) = 0
  · have HI := Lib.hid (nb_of v i HV.out hi h0 hp.out)
    rw [h0]
    clear h0 hp
    have hfz := hR.frozen i
    have hcl := hR.cell (i := i) (u8s_get (rowN v i) i (by rw [rowN_length v i hi]; omega))
    have hsl : ∀ W, (Instr.sliceAt 183 (.pointer (some ⟨w.heap.size, 0, none⟩)) (some (.int .i64 (i : Int))) none none).run Tryz.prog W = .ok (.slice (some ⟨w.heap.size, i, none⟩) (9 - i) (9 - i)) W := fun W => by
     have hal : Tryz.prog.arrayLen 183 = 9 := by kernel_rfl
     rw [run_sliceAt_array_l W 183 ⟨w.heap.size, 0, none⟩ (by simp [Program.arrayLen, Program.elem, Tryz.underlying183]) .i64 (i : Int) (by omega) (by rw [hal]; omega), hal]
     have hel : Tryz.prog.elem 183 = 5 := by simp [Program.elem, Tryz.underlying183]
     have hne : 9 ≠ i := by omega
     rw [hel, Tryz.sizeOf5 W]
     simp [Result.andThen, slicedAt, hne, add_plain]
    have hcv : (convert 90 9 (.slice (some ⟨w.heap.size, i, none⟩) (9 - i) (9 - i))).run Tryz.prog (wr.setCell ⟨w.heap.size, i, none⟩ (.int .u8 (8 - (i : Int)))) = .ok (.string (numB v)) (wr.setCell ⟨w.heap.size, i, none⟩ (.int .u8 (8 - (i : Int)))) := by
     have hr : ReadsInt (wr.setCell ⟨w.heap.size, i, none⟩ (.int .u8 (8 - (i : Int)))) .u8 (some ⟨w.heap.size, i, none⟩) (9 - i) (numL v) := by
      refine ⟨by unfold numL; rw [List.length_cons, beL_length, ← HI.out]; omega, by omega, fun _ => ⟨_, rfl, fun j hj => ?_⟩⟩
      rw [add_at]
      have hset := hR.set i (.int .u8 (8 - (i : Int)))
      have e : (u8s (rowN v i)).set i (.int .u8 (8 - (i : Int))) = u8s (List.replicate i 0 ++ numL v) := by
       have h2 := rowN_end v i hi (8 - (i : Int))
       unfold numL
       rw [← HI.out, show ((8 - i : Nat) : Int) = 8 - (i : Int) by omega, ← h2]
       simp [u8s, List.map_set]
      rw [e] at hset
      have hlen : (List.replicate i (0 : Int) ++ numL v).length = 9 := by
       unfold numL
       rw [List.length_append, List.length_replicate, List.length_cons, beL_length, ← HI.out]
       omega
      rw [hset.cell (u8s_get _ (i + j) (by rw [hlen]; omega))]
      congr 2
      rw [List.getD_eq_getElem?_getD, List.getD_eq_getElem?_getD, List.getElem?_append_right (by simp), List.length_replicate, Nat.add_sub_cancel_left]
     exact Kd.C_string Tryz.underlying90 Tryz.underlying5 Tryz.underlying9 (Kd.C_of_reads (d := (0 : Int)) (h1 := fun _ => rfl) hr)
    have hB2 : Below w.heap.size w (wr.setCell ⟨w.heap.size, i, none⟩ (.int .u8 (8 - (i : Int)))) := hB.setCell (Nat.le_refl _) _
    clear hR hB
    go_wp2
    go_ret
    exact ⟨rfl, hB2⟩
  · have hi0 : i ≠ 0 := by
     rintro rfl
     have := HV.out
     omega
    obtain ⟨i, rfl⟩ : ∃ j, i = j + 1 := ⟨i - 1, by omega⟩
    have hd := Lib.hid (div_next v i (by omega))
    have hs := Lib.hid (rowN_set v i (by omega))
    have hl := Lib.hid (rowN_length v (i + 1) hi)
    obtain ⟨x, hx⟩ : ∃ x, x = v / 256 ^ (8 - (i + 1)) := ⟨_, rfl⟩
    rw [← hx] at h0 hd hs ⊢
    have hx' := Lib.hid hx
    clear hx hp hi0
    have hx0 : (0 : Int) < (x : Int) := by omega
    clear h0
    have hfz := hR.frozen (i + 1)
    have hcl := hR.cell (i := i + 1) (u8s_get (rowN v (i + 1)) (i + 1) (by rw [hl.out]; omega))
    go_wp2
    have hR2 := hR.set (i + 1) (.int .u8 ((x : Int) % 256))
    have hB2 : Below w.heap.size w (wr.setCell ⟨w.heap.size, i + 1, none⟩ (.int .u8 ((x : Int) % 256))) := hB.setCell (Nat.le_refl _) _
    refine ⟨⟨i, by omega, ?_, rfl, Lib.hid (fun _ => ?_), ?_, hB2⟩, by simp [intOf]; omega⟩
    · rw [← hd.out]; rfl
    · rw [show 8 - i - 1 = 8 - (i + 1) by omega, ← hx'.out]; omega
    · have e : (u8s (rowN v (i + 1))).set (i + 1) (.int .u8 ((x : Int) % 256)) = u8s (rowN v i) := by
       rw [← hs.out]
       simp [u8s, List.map_set]
      rw [← e]
      exact hR2
def lump_Num.f (a0 : Int) : Option ByteArray := if 0 ≤ a0 ∧ a0 < 18446744073709551616 then some (numB a0.toNat) else none
theorem lump_Num.calls (a0 : Int) (r : ByteArray) (w : World) (h : lump_Num.f a0 = some r) :
 Calls Tryz.prog 134 #[.int .u64 a0] w fun e w' => e = .returned (.string r) ∧ Below w.heap.size w w' := by
 unfold lump_Num.f at h
 by_cases hs : 0 ≤ a0 ∧ a0 < 18446744073709551616
 · rw [if_pos hs] at h
   obtain rfl := Option.some.inj h
   have hn := num_any a0.toNat (by omega) w
   rw [Int.toNat_of_nonneg hs.1] at hn
   exact hn
 · rw [if_neg hs] at h
   cases h
end Go.Proofs.YtjlpjpjodhkpdaaGreatDoor
