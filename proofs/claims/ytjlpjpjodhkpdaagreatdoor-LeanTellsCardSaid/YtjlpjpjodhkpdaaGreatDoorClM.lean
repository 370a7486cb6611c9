/- tree.way: an iterator over the steps from the root to a place: its contract (SeqStopsK). · slices.Collect of the way's sides, slices.Reverse of them, slices.ContainsFunc of a path's sums that are not as long as a sum. · tree.root, tree.Climb: the inputs from a leaf to the root; in the form that the print takes. -/
import Derived.RangeFuncNested
import Derived.RangeFuncBound
import Derived.RangeFuncCalls
import Derived.RangeFuncLeaves
import Derived.Shelf.Abstract
import Derived.Shelf.RegionOpen
import Derived.WalkKit
import Derived.OwnWalkIn
import Derived.TacticsInMore
import Derived.LoopNIn
import Derived.LoopIn
import Derived.Maps.AppendAt
import Derived.Test.YtjlpjpjodhkpdaaGreatDoorTrM
import Derived.Shelf.SlicesQ.Reverse
set_option maxHeartbeats 4000000
set_option maxRecDepth 100000
set_option linter.unusedVariables false
set_option linter.unusedSimpArgs false
namespace Go.Proofs.YtjlpjpjodhkpdaaGreatDoor
open Go.RowKit Go.Proofs.YtjlpjpjodhkpdaaGreatDoorW.PrintWords
attribute [local go_sem] Oper.semAt_some
abbrev Side (N : Nat) := { s : Bool × Nat × Nat // s.2.1 < s.2.2 ∧ s.2.2 ≤ N }
def sideV (x : Bool × Nat × Nat) : Value := .agg #[.bool x.1, .int .i64 (x.2.1 : Int), .int .i64 (x.2.2 : Int)]
def encS (N : Nat) (x : Side N) : Array Value := #[sideV x.1]
def KpW (n₀ Bi : Nat) (A B : World) : Prop := Below n₀ A B ∧ B.heap[Bi]? = A.heap[Bi]?
theorem kpW_t {n₀ Bi : Nat} {A B C : World} (h : KpW n₀ Bi A B) (k : KpW n₀ Bi B C) : KpW n₀ Bi A C := ⟨h.1.trans k.1, k.2.trans h.2⟩
theorem cell_alloc_l' {w : World} {a : Addr} {v : Value} (o : Obj) (h : w.cell? a = some v) : (w.alloc o).cell? a = some v := by
 have hb : a.block < w.heap.size := by
  refine Decidable.byContradiction fun hn => ?_
  have : w.heap[a.block]? = none := Array.getElem?_eq_none_iff.2 (by omega)
  simp [World.cell?, this] at h
 exact (World.cell?_of_block (Below.heap_alloc w o a.block hb)).trans h
theorem half_in (F : Fence) (m : Nat) (n : Nat) (hn : n ≤ 2305843009213693952) (h58 : F.fn 133) (hro : F.round = none) (w : World) :
 CallsIn F m Tryz.prog 133 #[.int .i64 (n : Int)] w fun e w' => e = .returned (.int .i64 (TM.halfN n : Int)) ∧ w' = w := by
 obtain ⟨r, hr⟩ : ∃ r, r = TM.halfN n := ⟨_, rfl⟩
 rw [← hr]
 have HR : Hid (TM.halfFrom 1 n = r) := Lib.hid hr.symm
 clear hr
 refine callsIn_of_wp Tryz.func133 rfl h58 ?_ hro
 simp only [Tryz.ntmps133, List.size_toArray, List.length_cons, List.length_nil, Nat.reduceAdd, Nat.reduceSub, Array.replicate_succ, Array.replicate_zero, List.push_toArray, List.append_toArray, List.nil_append, List.cons_append]
 gi_wp2
 gi_loopw [3] (fun x u => ∃ j : Nat, 0 < j ∧ j ≤ n + 1 ∧ x = .int .i64 (j : Int) ∧ Hid (TM.halfFrom j n = r) ∧ u = w) (fun x _ => n + 1 - (intOf x).toNat)
 case atStart => exact ⟨1, by omega, by omega, rfl, HR, rfl⟩
 case round =>
  clear HR
  obtain ⟨j, h0, hj, rfl, HR, rfl⟩ := hrel
  have hE := HR.out
  rw [TM.halfFrom] at hE
  by_cases hc : 2 * j < n
  · rw [if_pos ⟨h0, hc⟩] at hE
    have HE := Lib.hid hE
    clear hE HR
    have hd : decide (2 * (j : Int) < (n : Int)) = true := by simp; omega
    gi_wp2
    go_roundw
    case rel => exact ⟨2 * j, by omega, by omega, by go_num, HE, by first | trivial | rfl⟩
    case measure => simp [intOf]; omega
  · rw [if_neg (fun h => hc h.2)] at hE
    subst hE
    clear HR
    have hd : decide (2 * (j : Int) < (n : Int)) = false := by simp; omega
    gi_wp2
    go_ret
    exact ⟨rfl, rfl⟩
theorem half_in2 (F : Fence) (m : Nat) (n : Nat) (hn : n ≤ 2305843009213693952) (h58 : F.fn 133) (hro : F.round = none) (x : Int) (w : World) (hx : x = (n : Int)) :
 CallsIn F m Tryz.prog 133 #[.int .i64 x] w fun e w' => e = .returned (.int .i64 (TM.halfN n : Int)) ∧ w' = w := by
 subst hx
 exact half_in F m n hn h58 hro w
theorem way_in (F : Fence) (m : Nat) (h33 : F.fn 108) (hro : F.round = none) (n i : Int) (w : World) :
 CallsIn F m Tryz.prog 108 #[.int .i64 n, .int .i64 i] w fun e w' => e = .returned (.func (.func 132) #[] #[.pointer (some ⟨w.heap.size, 0, none⟩), .pointer (some ⟨w.heap.size + 1, 0, none⟩)]) ∧ w' = (w.alloc (.cells #[.int .i64 n] 3)).alloc (.cells #[.int .i64 i] 3) := by
 refine callsIn_of_wp Tryz.func108 rfl h33 ?_ hro
 simp only [Tryz.ntmps108, List.size_toArray, List.length_cons, List.length_nil, Nat.reduceAdd, Nat.reduceSub, Array.replicate_succ, Array.replicate_zero, List.push_toArray, List.append_toArray, List.nil_append, List.cons_append]
 gi_wp2
 go_ret
 exact ⟨rfl, rfl⟩
theorem way1_in (F : Fence) (m : Nat) (h57 : F.fn 132) (h58 : F.fn 133) (hro : F.round = none) (hm : 2 ≤ m) (N : Nat) (hN : N ≤ 2305843009213693952) (i : Nat) (hi : i < N) (l Bn Bi n₀ : Nat) (J Jx : List (Side N) → World → Prop)
 (hJ : ∀ s (W W' : World), J s W → W.grownBy W' none → J s W')
 (hY : ∀ pre x W, J pre W → pre.length < (TM.wayL 0 N i).length → YieldAt F (m - 1) Tryz.prog l (encS N x) W fun e W' =>
   (e = .returned (.bool true) ∧ J (pre ++ [x]) W' ∧ KpW n₀ Bi W W') ∨ (e = .returned (.bool false) ∧ Jx (pre ++ [x]) W'))
 (W : World) (hn₀ : n₀ ≤ W.heap.size) (hBi : Bi < W.heap.size) (hcn : W.cell? ⟨Bn, 0, none⟩ = some (.int .i64 (N : Int))) (hci : W.cell? ⟨Bi, 0, none⟩ = some (.int .i64 (i : Int))) (h0 : J [] W) :
 CallsIn F m Tryz.prog 132 #[.func (.yield l) #[] #[], .pointer (some ⟨Bn, 0, none⟩), .pointer (some ⟨Bi, 0, none⟩)] W fun e W' => (∃ v, e = .returned v) ∧
  ((∃ ys : List (Side N), ys.map (·.1) = TM.wayL 0 N i ∧ J ys W') ∨ (∃ pre : List (Side N), True ∧ Jx pre W')) := by
 have h1 : 1 ≤ m := by omega
 have mixed : Tryz.prog.follows .mixedOrders = true := by kernel_rfl
 have HD : W.drew.cell? ⟨Bn, 0, none⟩ = some (.int .i64 (N : Int)) := hcn
 refine callsIn_of_wp Tryz.func132 rfl h57 ?_ hro
 simp only [Tryz.ntmps132, List.size_toArray, List.length_cons, List.length_nil, Nat.reduceAdd, Nat.reduceSub, Array.replicate_succ, Array.replicate_zero, List.push_toArray, List.append_toArray, List.nil_append, List.cons_append]
 gi_wp2
 gi_region_o
 all_goals
  gi_wp2
  gi_loopw [4, 5] (fun x y wr => ∃ (pre : List (Side N)) (lo k : Nat), x = .int .i64 (lo : Int) ∧ y = .int .i64 ((lo + k : Nat) : Int) ∧ lo ≤ i ∧ i < lo + k ∧ lo + k ≤ N ∧ pre.map (·.1) ++ TM.wayL lo k i = TM.wayL 0 N i ∧ J pre wr ∧ KpW n₀ Bi W wr ∧ W.heap.size ≤ wr.heap.size) (fun x y _ => (intOf y).toNat - (intOf x).toNat)
  case atStart => exact ⟨[], 0, N, rfl, by simp, by omega, by omega, by omega, by simp, hJ _ _ _ h0 ⟨rfl, rfl, rfl, Nat.le_refl _, fun _ _ _ => rfl⟩, ⟨(Below.refl n₀ W).drew, rfl⟩, Nat.le_refl _⟩
  case round =>
   obtain ⟨pre, lo, k, rfl, rfl, h2, h3, h4, h5, h6, h7, h8⟩ := hrel
   have hki : wr.cell? ⟨Bi, 0, none⟩ = some (.int .i64 (i : Int)) := (World.cell?_of_block h7.2).trans hci
   by_cases hk : 1 < k
   · have hd : decide ((1 : Int) < (k : Int)) = true := by simp; omega
     have hp := TM.half_pos k; have hlt := TM.half_lt k hk
     have HRel := Lib.hid (And.intro h5 (And.intro h6 (And.intro h7 h8)))
     have HJ := Lib.hid hJ; have HY := Lib.hid hY
     clear HD hcn hci h0 hJ hY h5 h6 h7 h8
     by_cases hc : i < lo + TM.halfN k
     · have hka : (wr.alloc (.cells #[.bool true, .int .i64 ((lo : Int) + (TM.halfN k : Int)), .int .i64 ((lo : Int) + (k : Int))] 152)).cell? ⟨Bi, 0, none⟩ = some (.int .i64 (i : Int)) := cell_alloc_l' _ hki
       have hb0 : decide ((lo : Int) + (TM.halfN k : Int) ≤ (i : Int)) = false := by simp; omega
       gi_wp2_with (gi_at_call 133; refine (half_in2 F (m - 1) k (by omega) h58 hro _ _ (by first | omega | (simp; done) | (simp; omega))).mono ?_; rintro e w' ⟨rfl, rfl⟩)
       obtain ⟨h5, h6, h7, h8⟩ := HRel.out
       have e5 := TM.wayL_right hk hc
       have hlen : pre.length < (TM.wayL 0 N i).length := by rw [← h5, e5]; simp
       obtain ⟨fn, tmps, assign, body, hy, hR⟩ := HY.out pre ⟨(true, lo + TM.halfN k, lo + k), by simp; omega⟩ (w'.alloc (.cells #[.bool true, .int .i64 ((lo : Int) + (TM.halfN k : Int)), .int .i64 ((lo : Int) + (k : Int))] 152)) (HJ.out _ _ _ h6 (World.grownBy_alloc _ _ _)) hlen
       unfold encS sideV at hy
       simp only [Int.natCast_add] at hy
       have h7' : KpW n₀ Bi W (w'.alloc (.cells #[.bool true, .int .i64 ((lo : Int) + (TM.halfN k : Int)), .int .i64 ((lo : Int) + (k : Int))] 152)) := ⟨h7.1.alloc (by omega) _, (Below.heap_alloc _ _ _ (by omega)).trans h7.2⟩
       have h8' : W.heap.size ≤ (w'.alloc (.cells #[.bool true, .int .i64 ((lo : Int) + (TM.halfN k : Int)), .int .i64 ((lo : Int) + (k : Int))] 152)).heap.size := by simp; omega
       have HE := Lib.hid (And.intro h5 e5); have H7 := Lib.hid (And.intro h7' h8')
       clear h5 h6 h7 h8 e5 h7' h8' hka hki HRel
       rw [hy]
       clear hy
       gi_wp2
       refine hR.mono ?_
       rintro e W3 (⟨rfl, hJ3, hk3⟩ | ⟨rfl, hJx3⟩)
       · gi_wp2
         go_roundw
         case rel => 
          obtain ⟨h5, e5⟩ := HE.out
          obtain ⟨h7, h8⟩ := H7.out
          exact ⟨pre ++ [⟨(true, lo + TM.halfN k, lo + k), by simp; omega⟩], lo, TM.halfN k, by first | rfl | go_num, by first | rfl | go_num, by omega, by omega, by omega, by rw [← h5, e5]; simp, hJ3, ⟨h7.1.trans hk3.1, hk3.2.trans h7.2⟩, Nat.le_trans h8 hk3.1.size⟩
         case measure => simp [intOf]; omega
       · gi_wp2
         refine bodyPost_ret (results_none rfl _ _ _) rfl ?_
         exact ⟨⟨_, rfl⟩, .inr ⟨_, trivial, hJx3⟩⟩
     · have hka : (wr.alloc (.cells #[.bool true, .int .i64 ((lo : Int) + (TM.halfN k : Int)), .int .i64 ((lo : Int) + (k : Int))] 152)).cell? ⟨Bi, 0, none⟩ = some (.int .i64 (i : Int)) := cell_alloc_l' _ hki
       have hb0 : decide ((lo : Int) + (TM.halfN k : Int) ≤ (i : Int)) = true := by simp; omega
       gi_wp2_with (gi_at_call 133; refine (half_in2 F (m - 1) k (by omega) h58 hro _ _ (by first | omega | (simp; done) | (simp; omega))).mono ?_; rintro e w' ⟨rfl, rfl⟩)
       obtain ⟨h5, h6, h7, h8⟩ := HRel.out
       have e5 := TM.wayL_left hk hc
       have hlen : pre.length < (TM.wayL 0 N i).length := by rw [← h5, e5]; simp
       obtain ⟨fn, tmps, assign, body, hy, hR⟩ := HY.out pre ⟨(false, lo, lo + TM.halfN k), by simp; omega⟩ (w'.alloc (.cells #[.bool false, .int .i64 (lo : Int), .int .i64 ((lo : Int) + (TM.halfN k : Int))] 152)) (HJ.out _ _ _ h6 (World.grownBy_alloc _ _ _)) hlen
       unfold encS sideV at hy
       simp only [Int.natCast_add] at hy
       have h7' : KpW n₀ Bi W (w'.alloc (.cells #[.bool false, .int .i64 (lo : Int), .int .i64 ((lo : Int) + (TM.halfN k : Int))] 152)) := ⟨h7.1.alloc (by omega) _, (Below.heap_alloc _ _ _ (by omega)).trans h7.2⟩
       have h8' : W.heap.size ≤ (w'.alloc (.cells #[.bool false, .int .i64 (lo : Int), .int .i64 ((lo : Int) + (TM.halfN k : Int))] 152)).heap.size := by simp; omega
       have HE := Lib.hid (And.intro h5 e5); have H7 := Lib.hid (And.intro h7' h8')
       clear h5 h6 h7 h8 e5 h7' h8' hka hki HRel
       rw [hy]
       clear hy
       gi_wp2
       refine hR.mono ?_
       rintro e W3 (⟨rfl, hJ3, hk3⟩ | ⟨rfl, hJx3⟩)
       · gi_wp2
         go_roundw
         case rel => 
          obtain ⟨h5, e5⟩ := HE.out
          obtain ⟨h7, h8⟩ := H7.out
          exact ⟨pre ++ [⟨(false, lo, lo + TM.halfN k), by simp; omega⟩], (lo + TM.halfN k), (k - TM.halfN k), by first | rfl | go_num, by congr 1; omega, by omega, by omega, by omega, by rw [← h5, e5]; simp, hJ3, ⟨h7.1.trans hk3.1, hk3.2.trans h7.2⟩, Nat.le_trans h8 hk3.1.size⟩
         case measure => simp [intOf]; omega
       · gi_wp2
         refine bodyPost_ret (results_none rfl _ _ _) rfl ?_
         exact ⟨⟨_, rfl⟩, .inr ⟨_, trivial, hJx3⟩⟩
   · have hd : decide ((1 : Int) < (k : Int)) = false := by simp; omega
     gi_wp2
     go_end0
     refine ⟨⟨_, rfl⟩, .inl ⟨pre, ?_, h6⟩⟩
     rw [TM.wayL_nil hk, List.append_nil] at h5
     exact h5
theorem kpW_b {n₀ Bi : Nat} {w : World} (hn : n₀ ≤ w.heap.size) (hi : Bi < w.heap.size) (W : World) (l : Nat) (o o' : Obj) (hl : w.heap.size ≤ l) (h : W.heap[l]? = some o) (h1 : o.isCells = false) (h2 : o.isWalk = false) : KpW n₀ Bi W (W.putObj l o') :=
 ⟨belowK_b hn W l o o' hl h h1 h2, World.putObj_heap_other (by omega)⟩
theorem way_stops (F : Fence) (m : Nat) (h57 : F.fn 132) (h58 : F.fn 133) (hro : F.round = none) (hm : 2 ≤ m) (N : Nat) (hN : N ≤ 2305843009213693952) (i : Nat) (hi : i < N) (Bn Bi n₀ : Nat) (w : World) (hn₀ : n₀ ≤ w.heap.size) (hBn : Bn < w.heap.size) (hBi : Bi < w.heap.size)
 (hcn : w.cell? ⟨Bn, 0, none⟩ = some (.int .i64 (N : Int))) (hci : w.cell? ⟨Bi, 0, none⟩ = some (.int .i64 (i : Int))) :
 SeqStopsK F m Tryz.prog 132 #[.pointer (some ⟨Bn, 0, none⟩), .pointer (some ⟨Bi, 0, none⟩)] (encS N) (KpW n₀ Bi) (fun ys => ys.map (·.1) = TM.wayL 0 N i) (fun _ => True) (TM.wayL 0 N i).length w := fun l J Jx W hW hJ hJx hY h0 =>
 way1_in F m h57 h58 hro hm N hN i hi l Bn Bi n₀ J Jx (fun s A B h hg => hJ s A B none h hg (fun r e => by cases e)) hY W (Nat.le_trans hn₀ hW.size) (Nat.lt_of_lt_of_le hBi hW.size)
  ((hW.cell (p := ⟨Bn, 0, none⟩) hBn).trans hcn) ((hW.cell (p := ⟨Bi, 0, none⟩) hBi).trans hci) h0
end Go.Proofs.YtjlpjpjodhkpdaaGreatDoor
namespace Go.Proofs.YtjlpjpjodhkpdaaGreatDoor
open Go.RowKit Go.Proofs.YtjlpjpjodhkpdaaGreatDoorW.PrintWords Go.Sort
attribute [local go_sem] Oper.semAt_some
abbrev SideT := Bool × Nat × Nat
def sideE (x : SideT) : List Value := [.bool x.1, .int .i64 (x.2.1 : Int), .int .i64 (x.2.2 : Int)]
theorem infoSide : (Tryz.prog.info? 152).map (fun i => (i.zero, i.size, i.bytes)) = some (some (.agg #[.bool false, .int .i64 0, .int .i64 0]), 3, 24) := by kernel_rfl
def sidesL (N : Nat) (pre : List (Side N)) : List Value := (pre.map (·.1)).flatMap sideE
theorem sidesL_snoc (N : Nat) (pre : List (Side N)) (x : Side N) : sidesL N (pre ++ [x]) = sidesL N pre ++ sideE x.1 := by simp [sidesL]
theorem sideE_len (x : SideT) : (sideE x).length = 3 := rfl
theorem sideE_one (x : SideT) : ∀ v ∈ sideE x, v.oneCell' = true := by
 intro v hv
 simp [sideE] at hv
 rcases hv with rfl | rfl | rfl <;> rfl
theorem flat_len (xs : List SideT) : (xs.flatMap sideE).length = xs.length * 3 := by
 induction xs with
 | nil => rfl
 | cons x xs ih => rw [List.flatMap_cons, List.length_append, ih, sideE_len, List.length_cons]; omega
theorem flat_get (xs : List SideT) : ∀ t, t < xs.length * 3 → (xs.flatMap sideE).getD t default = (sideE (xs.getD (t / 3) default)).getD (t % 3) default := by
 induction xs with
 | nil => intro t h; simp at h
 | cons x xs ih =>
   intro t h
   rw [List.length_cons] at h
   rw [List.flatMap_cons]
   by_cases h3 : t < 3
   · rw [List.getD_eq_getElem?_getD, List.getElem?_append_left (by rw [sideE_len]; exact h3), ← List.getD_eq_getElem?_getD, show t / 3 = 0 by omega, show t % 3 = t by omega]
     rfl
   · rw [List.getD_eq_getElem?_getD, List.getElem?_append_right (by rw [sideE_len]; omega), ← List.getD_eq_getElem?_getD, sideE_len, ih (t - 3) (by omega), show t / 3 = (t - 3) / 3 + 1 by omega, show t % 3 = (t - 3) % 3 by omega, List.getD_cons_succ]
theorem flat_flatK (xs : List SideT) : flatK sideE 3 xs.toArray = (xs.flatMap sideE).toArray := by
 refine ext_get! (by rw [size_flatK, List.size_toArray, List.size_toArray, flat_len]) fun t ht => ?_
 rw [size_flatK] at ht
 rw [get_flatK sideE 3 _ t ht]
 have := flat_get xs t (by simpa using ht)
 simp only [List.getD_eq_getElem?_getD] at this
 simp [List.getElem!_eq_getElem?_getD, ← this]
theorem holds_of_row {w : World} {base : Nat} {e : TypeId} {s n : Nat} {v : Value} {cells : List Value} (h : w.ownsRow base e s v n cells) (hv : v ≠ .slice none 0 0) :
 ∃ g cap, v = .slice (some ⟨g, 0, none⟩) n cap ∧ base ≤ g ∧ n ≤ cap ∧ cap ≤ maxLen ∧ Sort.Holds id w g 0 cells.toArray := by
 have hl := h.1
 rcases h.2 with ⟨e0, _⟩ | ⟨g, cap, cur, rfl, hb, hg, hn, hm, hs, ht⟩
 · exact absurd e0 hv
 · refine ⟨g, cap, rfl, hb, hn, hm, fun j hj => ?_⟩
   have hj' : j < n * s := by simpa [hl] using hj
   refine ⟨?_, by simp [World.frozen?, hg]⟩
   have e1 : (cur.toList.take (n * s))[j]? = cells[j]? := by rw [ht]
   rw [List.getElem?_take, if_pos hj', Array.getElem?_toList, List.getElem?_eq_getElem (by omega)] at e1
   simp only [World.cell?, hg, Nat.zero_add]
   simp only [Option.isSome_none, Bool.false_eq_true, if_false]
   rw [e1]
   simp [getElem!_pos, show j < cells.length by omega]
theorem row_putRow {w : World} {base : Nat} {e : TypeId} {s g n cap q : Nat} {cells ys : List Value} (h : w.ownsRow base e s (.slice (some ⟨g, 0, none⟩) n cap) n cells) (hy : ys.length = n * s) :
 (Sort.putRow id (Sort.ahead w q) g 0 ys.toArray).ownsRow base e s (.slice (some ⟨g, 0, none⟩) n cap) n ys := by
 rcases h.2 with ⟨e0, _⟩ | ⟨g', cap', cur, e0, hb, hg, hn, hm, hs, ht⟩
 · cases e0
 · injection e0 with e1 _ e3
   injection e1 with e1
   injection e1 with e1
   subst e1; subst e3
   have hle : n * s ≤ cap * s := Nat.mul_le_mul_right _ hn
   refine ⟨hy, .inr ⟨g, cap, Sort.putCells id 0 ys.toArray cur, rfl, hb, ?_, hn, hm, by simpa [Sort.putCells] using hs, ?_⟩⟩
   · simp [Sort.putRow, Sort.mapBlock, Sort.ahead, Array.getElem?_modify, hg, Sort.onCells]
   · apply List.ext_getElem?
     intro j
     rw [List.getElem?_take, Array.getElem?_toList]
     by_cases hj : j < n * s
     · have hjc : j < cur.size := by omega
       simp only [if_pos hj, Sort.putCells, Array.getElem?_mapIdx, Array.getElem?_eq_getElem hjc, Option.map_some]
       rw [if_pos (by simp; omega), List.getElem?_eq_getElem (by omega)]
       simp [getElem!_pos, show j < ys.length by omega]
     · rw [if_neg hj, List.getElem?_eq_none (by omega)]
def sidesRen : Go.Shelf.Ren := ⟨fun | 35 => 110 | n => n, fun | 22 => 149 | 23 => 152 | 3 => 3 | 4 => 4 | 0 => 0 | n => n, fun | n => n⟩
theorem sidesLays : SlLaysE0.n35 Tryz.prog sidesRen := {
 mixed := by kernel_rfl
 f35 := ⟨Tryz.f110.name, by kernel_rfl, Tryz.func110.trans (congrArg some (by kernel_rfl))⟩
 t0 := Tryz.underlying0
 a0 := Tryz.isAgg0
 z0 := Tryz.sizeOf0
 v0 := Tryz.zeroValue0
 t3 := Tryz.underlying3
 a3 := Tryz.isAgg3
 z3 := Tryz.sizeOf3
 v3 := Tryz.zeroValue3
 t4 := Tryz.underlying4
 a4 := Tryz.isAgg4
 z4 := Tryz.sizeOf4
 v4 := Tryz.zeroValue4
 t22 := Tryz.underlying149
 a22 := Tryz.isAgg149
 z22 := Tryz.sizeOf149
 v22 := Tryz.zeroValue149 }
theorem revSides_any (base : Nat) (v : Value) (xs : List SideT) (W : World) (h : W.ownsRow base 152 3 v xs.length (xs.flatMap sideE)) (hsz : xs.length ≤ 4096) :
 Calls Tryz.prog 110 #[v] W fun e W' => e = .returned (.tuple #[]) ∧ W'.ownsRow base 152 3 v xs.length (xs.reverse.flatMap sideE) ∧ W.grownBy W' v.ownBlock := by
 by_cases hv : v = .slice none 0 0
 · subst hv
   rcases h.2 with ⟨_, h0⟩ | ⟨g, cap, cur, e, _⟩
   · obtain rfl := List.eq_nil_of_length_eq_zero h0
     refine (AnyQ.slices_Reverse_empty sidesLays none 0 W).mono ?_
     rintro e w' ⟨he, rfl⟩
     exact ⟨he, h, rfl, rfl, rfl, Nat.le_refl _, fun _ _ _ => rfl⟩
   · cases e
 · obtain ⟨g, cap, rfl, hb, hn, hm, hH⟩ := holds_of_row h hv
   have hH' : HoldsK sideE 3 W g 0 xs.toArray := by
    unfold HoldsK
    rw [flat_flatK]
    exact hH
   refine (AnyQ.slices_Reverse sidesLays 3 Tryz.isAgg152 Tryz.sizeOf152 sideE sideE_len sideE_one g 0 cap xs.toArray W hH' (by simp; omega)).mono ?_
   rintro e w' ⟨he, n, rfl⟩
   have e1 : putRowK sideE 3 (Sort.ahead W n) g 0 xs.toArray.reverse = Sort.putRow id (Sort.ahead W n) g 0 (xs.reverse.flatMap sideE).toArray := by
    unfold putRowK
    rw [← flat_flatK]
    simp
   rw [e1]
   refine ⟨he, row_putRow h (by rw [flat_len, List.length_reverse]), rfl, rfl, rfl, by simp [Sort.putRow, Sort.mapBlock, Sort.ahead], fun k hk hne => ?_⟩
   have hgk : g ≠ k := fun e => hne (by simp [Value.ownBlock, e])
   simp [Sort.putRow, Sort.mapBlock, Sort.ahead, Array.getElem?_modify, hgk]
theorem cells_new (w : World) (cs : List Value) (t : TypeId) : ∀ j u, cs[j]? = some u → (w.alloc (.cells cs.toArray t)).cell? ((⟨w.heap.size, 0, none⟩ : Addr).add j) = some u := fun j u hj => by
 have := (RowIs.new w t cs).cell (i := j) hj
 rw [Addr.add_lit, Nat.zero_add]
 exact this
abbrev appFrame (cl : Value) (b : Nat) (t5 t7 : Value) : Act :=
 { tmps := #[.slice none 0 0, cl, .pointer (some ⟨b, 0, none⟩), undef, .slice none 0 0, t5, cl, t7, undef, undef, undef, undef, undef], defers := [] }
theorem appendSeq_in (N : Nat) (hN : N ≤ 4096) (i : Nat) (hi : i < N) (Bn Bi : Nat) (w : World) (hBn : Bn < w.heap.size) (bI : Boxed w Bi 3 (.int .i64 (i : Int))) (hcn : w.cell? ⟨Bn, 0, none⟩ = some (.int .i64 (N : Int))) :
 CallsIn Fence.wide 7 Tryz.prog 131 #[.slice none 0 0, .func (.func 132) #[] #[.pointer (some ⟨Bn, 0, none⟩), .pointer (some ⟨Bi, 0, none⟩)]] w fun e w' =>
  ∃ v, e = .returned v ∧ w'.ownsRow w.heap.size 152 3 v (TM.wayL 0 N i).length ((TM.wayL 0 N i).flatMap sideE) ∧ Below w.heap.size w w' := by
 refine callsIn_of_wp_marks Tryz.func131 rfl trivial ?_ rfl
 simp only [Tryz.ntmps131, List.size_toArray, List.length_cons, List.length_nil, Nat.reduceAdd, Nat.reduceSub, Array.replicate_succ, Array.replicate_zero, List.push_toArray, List.append_toArray, List.nil_append, List.cons_append]
 have HC := Lib.hid hcn; have HBI := Lib.hid bI
 clear hcn bI
 gi_wp2
 have bS := Boxed.new w 149 (.slice none 0 0)
 have bI := HBI.out.alloc (.cells #[.slice none 0 0] 149)
 have hB0 : Below w.heap.size w (w.alloc (.cells #[.slice none 0 0] 149)) := (Below.refl _ w).alloc (Nat.le_refl _) _
 have hsz : (w.alloc (.cells #[.slice none 0 0] 149)).heap.size = w.heap.size + 1 := by simp
 have hcn := (hB0.cell (p := ⟨Bn, 0, none⟩) hBn).trans HC.out
 have hBi := HBI.out.lt
 obtain ⟨W0, hW0⟩ : ∃ W0, w.alloc (.cells #[.slice none 0 0] 149) = W0 := ⟨_, rfl⟩
 rw [hW0] at bS bI hB0 hsz hcn ⊢
 clear hW0
 have h12 := TM.way_le 12 N 0 i hN
 refine wpIn_rangeFunc_ownH rfl (by omega) (gf := 132) (lb := #[.pointer (some ⟨Bn, 0, none⟩), .pointer (some ⟨Bi, 0, none⟩)]) rfl trivial (enters_of Tryz.func132 (by kernel_rfl) rfl)
  (way_stops Fence.wide 6 trivial trivial rfl (by omega) N (by omega) i hi Bn Bi w.heap.size W0 (by omega) (by omega) (by omega) hcn bI.cell) kpW_t (kpW_b (by omega) (by omega)) (Below.refl _ _) (fun _ => rfl)
  (fun pre W => ((∃ v, Boxed W w.heap.size 149 v ∧ W.ownsRow w.heap.size 152 3 v pre.length (sidesL N pre) ∧ True) ∧ Boxed W Bi 3 (.int .i64 (i : Int))) ∧ Below w.heap.size w W)
  (fun _ _ _ => False)
  ?_ (fun _ _ _ _ _ h _ _ => h) ⟨⟨⟨_, bS, World.ownsRow_nil _ _ _ _, trivial⟩, bI⟩, hB0⟩
  (fun x a' W => ∃ Bx, w.heap.size + 1 ≤ Bx ∧ W.heap[Bx]? = some (.cells #[.bool x.1.1, .int .i64 (x.1.2.1 : Int), .int .i64 (x.1.2.2 : Int)] 152 (0, 0)) ∧ a' = appFrame (.func (.func 132) #[] #[.pointer (some ⟨Bn, 0, none⟩), .pointer (some ⟨Bi, 0, none⟩)]) w.heap.size (.pointer (some ⟨Bx, 0, none⟩)) (.agg #[.bool x.1.1, .int .i64 (x.1.2.1 : Int), .int .i64 (x.1.2.2 : Int)]))
  ?_ ?assign ?body ?done ?stop
 · exact OwnFrom.and (OwnFrom.and (Own.from (holdsRow_own _ _ _ _ 3 (fun pre => pre.length) (fun pre => sidesL N pre) (fun _ _ => True)) _) (Own.from (boxed_own _ _ _) _)) (ownFrom_below (Nat.le_refl _) (by omega))
 · rintro x a' s X Y row ⟨Bx, h1, h2, h3⟩ hg hrow
   refine ⟨Bx, h1, (hg.block Bx (Array.getElem?_eq_some_iff.1 h2).1 (fun e => ?_)).trans h2, h3⟩
   obtain ⟨_, o, ho, hc⟩ := hrow Bx e.symm
   rw [h2] at ho
   cases ho
   cases hc
 case assign =>
  rintro l' pre x W K ⟨⟨⟨v, h1, h2, h3⟩, h5⟩, h6⟩ hK
  have HK := Lib.hid hK; have H1 := Lib.hid h1; have H2 := Lib.hid h2; have H5 := Lib.hid h5; have H6 := Lib.hid h6
  clear hK h1 h2 h3 h5 h6
  have hz := H6.out.size
  unfold encS sideV
  gi_wp2
  have bI' := H5.out.alloc (.cells #[.bool x.1.1, .int .i64 (x.1.2.1 : Int), .int .i64 (x.1.2.2 : Int)] 152)
  exact HK.out _ _ ((KeepsOthers.alloc _ _).from _) ⟨(Below.refl _ W).alloc hz _, bI'.trans H5.out.symm⟩ ⟨⟨⟨v, H1.out.alloc _, H2.out.alloc _, trivial⟩, bI'⟩, H6.out.alloc hz _⟩ ⟨W.heap.size, by have := H1.out.lt; omega, World.alloc_heap_new W _, rfl⟩
 case body =>
  rintro l' pre x a' W hl ⟨r, hlr⟩ ⟨⟨⟨v, h1, h2, h3⟩, h5⟩, h6⟩ ⟨Bx, hBx, hX, rfl⟩ hlt
  obtain ⟨⟨bb, lo, hi'⟩, hx1, hx2⟩ := x
  dsimp only at hx1 hx2 hX ⊢
  obtain ⟨i0, hi0, hz0, hsz0, hby0⟩ := info_parts infoSide
  have hcb := h1.cell
  have hc0 : W.cell? ⟨Bx, 0, none⟩ = some (.bool bb) := by simp [World.cell?, hX]
  have hc1 : W.cell? ⟨Bx, 1, none⟩ = some (.int .i64 (lo : Int)) := by simp [World.cell?, hX]
  have hc2 : W.cell? ⟨Bx, 2, none⟩ = some (.int .i64 (hi' : Int)) := by simp [World.cell?, hX]
  have HA := Lib.hid (And.intro h1 (And.intro h2 (And.intro h5 (And.intro h6 hX))))
  have hzu := h6.size
  clear h1 h2 h3 h5 h6 hX bS bI hB0 hcn HBI HC hlr
  gi_wp2_with (gi_at_builtin; refine wpListIn_append_own _ rfl _ _ 149 rfl w.heap.size 152 i0 (.agg #[.bool false, .int .i64 0, .int .i64 0]) 3 24 Tryz.underlying149 hi0 hz0 hsz0 hby0 rfl (by decide) _ _ _ rfl (HA.out.2.1.alloc _) ⟨W.heap.size, 0, none⟩ 1 1 [.bool bb, .int .i64 (lo : Int), .int .i64 (hi' : Int)] rfl rfl (cells_new _ _ _) (by simp [Value.oneCell']) (by unfold maxLen; omega) (by omega) (by simp; omega) ?_; intro v' w1 hown' hgrow _; obtain ⟨g', cap', rfl⟩ := ownsRow_succ hown'; obtain ⟨a1, a2, a3, a4, a5⟩ := HA.out.1.appended (by decide) HA.out.2.1 HA.out.2.2.2.1.size (Nat.le_refl _) hown' hgrow; have hcb1 := a1.cell; have hfb1 := a1.frozen; have HE := Lib.hid (And.intro a2 (And.intro a3 (And.intro a4 (And.intro a5 hgrow)))); clear a1 a2 a3 a4 a5 hown' hgrow)
  obtain ⟨a2, a3, a4, a5, hgrow⟩ := HE.out
  obtain ⟨b1, b2, b3, b4, b5⟩ := HA.out
  have b3' := (b3.alloc (.cells #[.bool bb, .int .i64 (lo : Int), .int .i64 (hi' : Int)] 152)).kept hgrow (b3.not_row (by decide) b2)
  have hne : Bi ≠ w.heap.size := by omega
  refine ⟨a4.from _, ⟨a5, (b3'.other hne _).trans b3.symm⟩, ⟨⟨⟨_, a2, ?_, trivial⟩, b3'.other hne _⟩, b4.trans a5⟩⟩
  rw [sidesL_snoc, List.length_append]
  exact a3
 case done =>
  rintro D ys W3 hD hS ⟨⟨⟨v, h1, h2, _⟩, h5⟩, h6⟩ hK
  have hcb := h1.cell
  have hl := congrArg List.length hS
  rw [List.length_map] at hl
  have HA := Lib.hid (And.intro h2 (And.intro h6 (And.intro hK (And.intro hS hl))))
  clear h1 h2 h5 h6 hK hS hl bS bI hB0 hcn HBI HC
  gi_wp2
  obtain ⟨h2, h6, hK, hS, hl⟩ := HA.out
  refine ⟨by simp, .inl ⟨_, _, rfl, run_takeDeferred hK, ?_⟩⟩
  refine ⟨_, results_tmp rfl _ _ _, v, rfl, ?_, h6.trans (belowK_b (w := w) (Nat.le_refl _) W3 D _ _ (by omega) hK rfl rfl)⟩
  unfold sidesL at h2
  rw [hS, hl] at h2
  exact ownsRow_putObj h2 _ hK rfl
 case stop =>
  rintro D c pre W3 _ _ h _
  exact h.elim
theorem collect_any (N : Nat) (hN : N ≤ 4096) (i : Nat) (hi : i < N) (Bn Bi : Nat) (w : World) (hBn : Bn < w.heap.size) (bI : Boxed w Bi 3 (.int .i64 (i : Int))) (hcn : w.cell? ⟨Bn, 0, none⟩ = some (.int .i64 (N : Int))) :
 Calls Tryz.prog 107 #[.func (.func 132) #[] #[.pointer (some ⟨Bn, 0, none⟩), .pointer (some ⟨Bi, 0, none⟩)]] w fun e w' =>
  ∃ v, e = .returned v ∧ w'.ownsRow w.heap.size 152 3 v (TM.wayL 0 N i).length ((TM.wayL 0 N i).flatMap sideE) ∧ Below w.heap.size w w' := by
 have HA := Lib.hid (callsIn_wide.1 (appendSeq_in N hN i hi Bn Bi w hBn bI hcn))
 clear hBn bI hcn
 go_enter Tryz.func107, Tryz.ntmps107
 go_wp2_with (go_at_call 131; refine Pause'.out ?_)
 constructor
 refine HA.out.mono ?_
 rintro e u ⟨v, rfl, h1, h2⟩
 have HB := Lib.hid (And.intro h1 h2)
 clear h1 h2
 go_wp2
 go_ret
 exact ⟨v, rfl, HB.out.1, HB.out.2⟩
theorem short_any (p : ByteArray) (b : Bool) (hb : b = decide (p.size ≠ 32)) (w : World) :
 Calls Tryz.prog 109 #[.string p] w fun e w' => e = .returned (.bool b) ∧ Below w.heap.size w w' := by
 have hB := Below.refl w.heap.size w
 cases b with
 | true =>
   have h : p.size ≠ 32 := of_decide_eq_true hb.symm
   have h1 : ((p.size : Int) != 32) = true := bne_iff_ne.mpr (by omega)
   have h2 : ((p.size : Int) == 32) = false := beq_eq_false_iff_ne.mpr (by omega)
   clear h hb
   go_enter Tryz.func109, Tryz.ntmps109
   go_wp2
   go_ret
   exact ⟨rfl, hB⟩
 | false =>
   have h : p.size = 32 := by simpa using hb.symm
   have h1 : ((p.size : Int) != 32) = false := by rw [h]; rfl
   clear hb
   have HH := Lib.hid h
   clear h
   go_enter Tryz.func109, Tryz.ntmps109
   go_wp2
   go_ret
   exact ⟨rfl, hB⟩
theorem index_any (A0 : Option Addr) (c0 : Nat) (l : List ByteArray) (r : Int) (w : World) (hr : Kd.C Kd.string w A0 l.length l) (hl : l.length ≤ 4096)
 (h1 : ∀ k, k < l.length → (∀ j, j < k → (l.getD j ByteArray.empty).size = 32) → (l.getD k ByteArray.empty).size ≠ 32 → r = k) (h2 : (∀ j, j < l.length → (l.getD j ByteArray.empty).size = 32) → r = -1) :
 Calls Tryz.prog 99 #[.slice A0 l.length c0, .func (.func 109) #[] #[]] w fun e w' => e = .returned (.int .i64 r) ∧ Below w.heap.size w w' := by
 have hB := Below.refl w.heap.size w
 have H1 := Lib.hid h1; have H2 := Lib.hid h2; have HR := Lib.hid hr
 clear h1 h2 hr
 go_enter Tryz.func99, Tryz.ntmps99
 go_wp2
 go_loopw [8] (fun x u => ∃ k : Nat, k ≤ l.length ∧ x = .int .i64 (k : Int) ∧ Hid (∀ j, j < k → (l.getD j ByteArray.empty).size = 32) ∧ Below w.heap.size w u) (fun x _ => l.length + 1 - (intOf x).toNat)
 case atStart => exact ⟨0, by omega, rfl, Lib.hid (fun j h => by omega), hB⟩
 case round =>
  clear hB
  obtain ⟨k, hk, rfl, HP, hB⟩ := hrel
  by_cases hc : k < l.length
  · obtain ⟨ad, rfl, hcell⟩ := Kd.at_string (Kd.C_below HR.out hB) k (by omega) (by omega)
    have hcl : wr.cell? (ad.add k) = some (.string (l.getD k ByteArray.empty)) := hcell
    have hlt : decide ((k : Int) < (l.length : Int)) = true := by simp; omega
    have hlt2 : decide (k < l.length) = true := by simp; omega
    by_cases hs : (l.getD k ByteArray.empty).size = 32
    · have HS := Lib.hid (fun u => short_any (l.getD k ByteArray.empty) false (by rw [hs]; rfl) u)
      have HX := Lib.hid (show ∀ j, j < k + 1 → (l.getD j ByteArray.empty).size = 32 from fun j hj => by
       by_cases e : j = k
       · rw [e]; exact hs
       · exact HP.out j (by omega))
      generalize l.getD k ByteArray.empty = p at *
      clear hcell HR hs
      go_wp2_with (go_at_call 109; refine Pause'.out ?_)
      constructor
      refine (HS.out _).mono ?_
      rintro e u ⟨rfl, hb⟩
      have hB2 := hB.trans (hb.mono hB.size)
      clear hb
      go_wp2
      go_roundw
      case rel => exact ⟨k + 1, by omega, by go_num, HX, hB2⟩
      case measure => simp [intOf]; omega
    · have HS := Lib.hid (fun u => short_any (l.getD k ByteArray.empty) true (by simpa using hs) u)
      have hrk := Lib.hid (H1.out k hc HP.out hs)
      generalize l.getD k ByteArray.empty = p at *
      clear hcell HR hs
      go_wp2_with (go_at_call 109; refine Pause'.out ?_)
      constructor
      refine (HS.out _).mono ?_
      rintro e u ⟨rfl, hb⟩
      have hB2 := hB.trans (hb.mono hB.size)
      clear hb
      go_wp2
      go_ret
      exact ⟨by rw [hrk.out]; rfl, hB2⟩
  · have hrk := Lib.hid (H2.out (fun j hj => HP.out j (by omega)))
    have hlt : decide ((k : Int) < (l.length : Int)) = false := by simp; omega
    have hlt2 : decide (k < l.length) = false := by simp; omega
    clear HR
    go_wp2
    go_ret
    exact ⟨by rw [hrk.out]; rfl, hB⟩
theorem least {p : Nat → Prop} (h : ∃ n, p n) : ∃ n, p n ∧ ∀ m, m < n → ¬ p m := by
 obtain ⟨n, hn⟩ := h
 induction n using Nat.strongRecOn with
 | ind n ih =>
   by_cases hm : ∃ m, m < n ∧ p m
   · obtain ⟨m, h1, h2⟩ := hm
     exact ih m h1 h2
   · exact ⟨n, hn, fun m h1 h2 => hm ⟨m, h1, h2⟩⟩
theorem contains_any (A0 : Option Addr) (c0 : Nat) (l : List ByteArray) (b : Bool) (w : World) (hr : Kd.C Kd.string w A0 l.length l) (hl : l.length ≤ 4096) (hb : b = l.any fun p => decide (p.size ≠ 32)) :
 Calls Tryz.prog 67 #[.slice A0 l.length c0, .func (.func 109) #[] #[]] w fun e w' => e = .returned (.bool b) ∧ Below w.heap.size w w' := by
 cases b with
 | false =>
   have h : ∀ p ∈ l, p.size = 32 := fun p hp => by
    have := List.any_eq_false.1 hb.symm p hp
    simpa using this
   have HI := Lib.hid (index_any A0 c0 l (-1) w hr hl (fun k hk _ h2 => absurd (h _ (by rw [List.getD_eq_getElem?_getD, List.getElem?_eq_getElem hk]; simp)) h2) (fun _ => rfl))
   clear hr hb h
   go_enter Tryz.func67, Tryz.ntmps67
   go_wp2_with (go_at_call 99; refine Pause'.out ?_)
   constructor
   refine HI.out.mono ?_
   rintro e u ⟨rfl, hB⟩
   go_wp2
   go_ret
   exact ⟨rfl, hB⟩
 | true =>
   obtain ⟨r, h0, h1, h2⟩ : ∃ r : Nat, r < l.length ∧ (∀ j, j < r → (l.getD j ByteArray.empty).size = 32) ∧ (l.getD r ByteArray.empty).size ≠ 32 := by
    clear hr hl
    obtain ⟨p, hp, hs⟩ := List.any_eq_true.1 hb.symm
    obtain ⟨i, hi, he⟩ := List.getElem_of_mem hp
    have hx : ∃ i, i < l.length ∧ (l.getD i ByteArray.empty).size ≠ 32 := ⟨i, hi, by rw [List.getD_eq_getElem?_getD, List.getElem?_eq_getElem hi]; simpa [he] using hs⟩
    obtain ⟨r, hr1, hr2⟩ := least hx
    exact ⟨r, hr1.1, fun j hj => Decidable.byContradiction fun hn => hr2 j hj ⟨Nat.lt_trans hj hr1.1, hn⟩, hr1.2⟩
   have HI := Lib.hid (index_any A0 c0 l (r : Int) w hr hl (fun k hk h3 h4 => by
    rcases Nat.lt_trichotomy k r with h | h | h
    · exact absurd (h1 k h) h4
    · rw [h]
    · exact absurd (h3 r h) h2) (fun h => absurd (h r h0) h2))
   clear hr hb h0 h1 h2
   go_enter Tryz.func67, Tryz.ntmps67
   go_wp2_with (go_at_call 99; refine Pause'.out ?_)
   constructor
   refine HI.out.mono ?_
   rintro e u ⟨rfl, hB⟩
   go_wp2
   go_ret
   exact ⟨rfl, hB⟩
end Go.Proofs.YtjlpjpjodhkpdaaGreatDoor
namespace Go.Proofs.YtjlpjpjodhkpdaaGreatDoor
open Go.RowKit Go.Proofs.YtjlpjpjodhkpdaaGreatDoorW.PrintWords
def rootB (n : Nat) (c : ByteArray) : ByteArray := ((⟨#[2]⟩ : ByteArray) ++ numB n) ++ c
theorem numB_size (v : Nat) : (numB v).size ≤ 9 := by
 have h := nb_le v
 have : (numB v).size = (numL v).length := by simp [numB, strOfNums, ByteArray.size]
 rw [this]
 simp [numL, beL_length]
 omega
theorem root_any (n : Nat) (hn : n ≤ 4096) (c : ByteArray) (hs : c.size ≤ 562949953421311) (w : World) :
 Calls Tryz.prog 113 #[.int .i64 (n : Int), .string c] w fun e w' => e = .returned (.string (rootB n c)) ∧ Below w.heap.size w w' := by
 have hB := Below.refl w.heap.size w
 have h9 := numB_size n
 have h1 : 1 + (numB n).size ≤ 9223372036854775807 := by omega
 have h2 : ((⟨#[2]⟩ : ByteArray) ++ numB n).size + c.size ≤ 9223372036854775807 := by
  rw [ByteArray.size_append]
  show 1 + _ + c.size ≤ _
  omega
 have c1 := eq_true h1
 have c2 : (9223372036854775807 < 1 + (numB n).size) = False := eq_false (Nat.not_lt.2 h1)
 have c3 := eq_true h2
 have c4 : (9223372036854775807 < ((⟨#[2]⟩ : ByteArray) ++ numB n).size + c.size) = False := eq_false (Nat.not_lt.2 h2)
 have c5 : (9223372036854775807 < 1 + (numB n).size + c.size) = False := eq_false (by omega)
 have HN := Lib.hid (num_any n (by omega))
 unfold rootB
 clear hs h1 h2 h9
 generalize numB n = nn at *
 go_enter Tryz.func113, Tryz.ntmps113
 go_wp2_with (go_at_call 134; refine Pause'.out ?_)
 constructor
 refine (HN.out _).mono ?_
 rintro e u ⟨rfl, hb⟩
 replace hB := hB.trans hb
 clear hb HN
 go_wp2
 go_ret
 exact ⟨rfl, hB⟩
theorem way_any (n i : Int) (w : World) :
 Calls Tryz.prog 108 #[.int .i64 n, .int .i64 i] w fun e w' => e = .returned (.func (.func 132) #[] #[.pointer (some ⟨w.heap.size, 0, none⟩), .pointer (some ⟨w.heap.size + 1, 0, none⟩)]) ∧ w' = (w.alloc (.cells #[.int .i64 n] 3)).alloc (.cells #[.int .i64 i] 3) :=
 callsIn_wide.1 (way_in Fence.wide 0 trivial rfl n i w)
theorem Kd.own_step {w w1 : World} {base size k : Nat} {e : TypeId} {v : Value} {xs : List Value} (h : w.ownsRow base e size v k xs) (hb : Below w.heap.size w w1) : w1.ownsRow base e size v k xs := by
 refine ⟨h.1, h.2.imp id ?_⟩
 rintro ⟨g, cap, cur, h1, h2, h3, h4⟩
 exact ⟨g, cap, cur, h1, h2, (hb.block g (Array.getElem?_eq_some_iff.1 h3).1).trans h3, h4⟩
theorem own_new (w : World) (base : Nat) (e : TypeId) (cs : List Value) (hb : base ≤ w.heap.size) (hm : cs.length ≤ maxLen) : (w.alloc (.cells cs.toArray e)).ownsRow base e 1 (.slice (some ⟨w.heap.size, 0, none⟩) cs.length cs.length) cs.length cs :=
 ⟨by omega, .inr ⟨w.heap.size, cs.length, cs.toArray, rfl, hb, World.alloc_heap_new _ _, Nat.le_refl _, hm, by simp, by simp⟩⟩
theorem side_cells {w : World} {base n c k gs : Nat} {xs : List SideT} {x : SideT} (h : w.ownsRow base 152 3 (.slice (some ⟨gs, 0, none⟩) n c) n (xs.flatMap sideE)) (hx : xs[k]? = some x) :
 w.cell? ⟨gs, k * 3, none⟩ = some (.bool x.1) ∧ w.cell? ⟨gs, k * 3 + 1, none⟩ = some (.int .i64 (x.2.1 : Int)) ∧ w.cell? ⟨gs, k * 3 + 2, none⟩ = some (.int .i64 (x.2.2 : Int)) := by
 obtain ⟨g, cap, e, _, _, _, hH⟩ := holds_of_row h (by simp)
 injection e with e1 _ _
 injection e1 with e1
 injection e1 with e1
 subst e1
 have hk := (List.getElem?_eq_some_iff.1 hx).1
 have hg : ∀ j, j < 3 → w.cell? ⟨gs, k * 3 + j, none⟩ = some ((sideE x).getD j default) := fun j hj => by
  have h1 := (hH (k * 3 + j) (by rw [List.size_toArray, flat_len]; omega)).1
  have h2 := flat_get xs (k * 3 + j) (by omega)
  rw [show (k * 3 + j) / 3 = k by omega, show (k * 3 + j) % 3 = j by omega] at h2
  rw [Nat.zero_add] at h1
  rw [h1, id]
  simp only [List.getD_eq_getElem?_getD] at h2 ⊢
  rw [hx] at h2
  simp only [List.getElem!_toArray, List.getElem!_eq_getElem?_getD]
  rw [h2]
  rfl
 exact ⟨hg 0 (by omega), hg 1 (by omega), hg 2 (by omega)⟩
theorem strs_snoc' (a : List ByteArray) (b : ByteArray) : (a ++ [b]).map Value.string = a.map Value.string ++ [.string b] := by simp
def outK (N i : Nat) (s : ByteArray) (path : List ByteArray) (k : Nat) : List ByteArray := TM.climbF sumB ((TM.rights 0 N i).take k) (path.take k) [TM.leafB s]
theorem rights_get {N i k : Nat} {x : SideT} (h : (TM.wayL 0 N i).reverse[k]? = some x) : (TM.rights 0 N i)[k]? = some x.1 := by
 unfold TM.rights
 rw [← List.map_reverse, List.getElem?_map, h]
 rfl
theorem take_snoc {α : Type} {l : List α} {k : Nat} {x : α} (h : l[k]? = some x) : l.take (k + 1) = l.take k ++ [x] := by
 obtain ⟨hk, he⟩ := List.getElem?_eq_some_iff.1 h
 rw [List.take_succ_eq_append_getElem hk, he]
theorem outK_succ {N i : Nat} {s : ByteArray} {path : List ByteArray} {k : Nat} {b : Bool} {p : ByteArray} (h1 : (TM.rights 0 N i)[k]? = some b) (h2 : path[k]? = some p) :
 outK N i s path (k + 1) = outK N i s path k ++ [TM.stepB b (sumB (TM.lastB (outK N i s path k))) p] := by
 unfold outK
 have hk1 := (List.getElem?_eq_some_iff.1 h1).1; have hk2 := (List.getElem?_eq_some_iff.1 h2).1
 rw [take_snoc h1, take_snoc h2, TM.climbF_snoc sumB _ _ _ _ _ (by rw [List.length_take, List.length_take]; omega)]
theorem outK_length {N i : Nat} {s : ByteArray} {path : List ByteArray} (hp : path.length = (TM.wayL 0 N i).length) {k : Nat} (hk : k ≤ path.length) : (outK N i s path k).length = k + 1 := by
 unfold outK
 rw [TM.climbF_length sumB _ _ _ (by rw [List.length_take, List.length_take, TM.rights_length]; omega), List.length_take, TM.rights_length]
 simp
 omega
theorem outK_all {N i : Nat} {s : ByteArray} {path : List ByteArray} (hp : path.length = (TM.wayL 0 N i).length) : outK N i s path path.length = TM.climbF sumB (TM.rights 0 N i) path [TM.leafB s] := by
 unfold outK
 rw [List.take_of_length_le (by rw [TM.rights_length]; omega), List.take_of_length_le (Nat.le_refl _)]
theorem last_get {l : List ByteArray} {k : Nat} (h : l.length = k + 1) : l[k]? = some (TM.lastB l) := by
 have hne : l ≠ [] := by rintro rfl; simp at h
 rw [TM.snoc_of hne]
 have hl : l.dropLast.length = k := by rw [List.length_dropLast]; omega
 rw [List.getElem?_append_right (by omega), hl]
 simp [TM.lastB_snoc]
theorem outK_size {N i : Nat} {s : ByteArray} {path : List ByteArray} (hs : s.size ≤ 562949953421311) (h32 : ∀ p ∈ path, p.size = 32) (hp : path.length = (TM.wayL 0 N i).length) : ∀ k, k ≤ path.length → ∀ x ∈ outK N i s path k, x.size ≤ 562949953421312
 | 0, _, x, hx => by
   have : outK N i s path 0 = [TM.leafB s] := by simp [outK, TM.climbF]
   rw [this] at hx
   obtain rfl := List.mem_singleton.1 hx
   unfold TM.leafB
   rw [ByteArray.size_append]
   show 1 + s.size ≤ _
   omega
 | k + 1, hk, x, hx => by
   have h1 : (TM.rights 0 N i)[k]? = some _ := List.getElem?_eq_getElem (by rw [TM.rights_length]; omega)
   have h2 : path[k]? = some _ := List.getElem?_eq_getElem (by omega)
   have hpk : (path[k]'(by omega)).size = 32 := h32 _ (List.getElem_mem _)
   rw [outK_succ h1 h2, List.mem_append] at hx
   rcases hx with hx | hx
   · exact outK_size hs h32 hp k (by omega) x hx
   · obtain rfl := List.mem_singleton.1 hx
     unfold TM.stepB TM.nodeB
     split <;> (rw [ByteArray.size_append, ByteArray.size_append, sumB_size, hpk]; decide)
theorem own_cell {w : World} {base n c g k : Nat} {e : TypeId} {xs : List Value} {x : Value} (h : w.ownsRow base e 1 (.slice (some ⟨g, 0, none⟩) n c) n xs) (hx : xs[k]? = some x) : w.cell? ⟨g, k, none⟩ = some x := by
 obtain ⟨g', cap, e, _, _, _, hH⟩ := holds_of_row h (by simp)
 injection e with e1 _ _
 injection e1 with e1
 injection e1 with e1
 subst e1
 have hk := (List.getElem?_eq_some_iff.1 hx).1
 have h1 := (hH k (by simpa using hk)).1
 rw [Nat.zero_add] at h1
 rw [h1, id]
 simp only [List.getElem!_toArray, List.getElem!_eq_getElem?_getD, hx]
 rfl
theorem own_other {w w1 : World} {b1 b2 s1 s2 n1 n2 : Nat} {e1 e2 : TypeId} {v1 v2 : Value} {x1 x2 : List Value} (h : w.ownsRow b1 e1 s1 v1 n1 x1) (h' : w.ownsRow b2 e2 s2 v2 n2 x2) (hne : e1 ≠ e2) (hg : w.grownBy w1 v2.ownBlock) : w1.ownsRow b1 e1 s1 v1 n1 x1 := by
 refine h.kept hg ?_
 rcases h.2 with ⟨rfl, _⟩ | ⟨g1, _, _, rfl, _, hg1, _⟩
 · exact .inl rfl
 · refine .inr fun e => ?_
   rcases h'.2 with ⟨rfl, _⟩ | ⟨g2, _, _, rfl, _, hg2, _⟩
   · simp [Value.ownBlock] at e
   · have : g1 = g2 := by simpa [Value.ownBlock] using e
     rw [this, hg2] at hg1
     injection hg1 with hg1
     injection hg1 with _ hg1 _
     exact hne hg1.symm
theorem climb_any (N i : Nat) (s : ByteArray) (A0 : Option Addr) (c0 : Nat) (path : List ByteArray) (w : World) (hT : Tabs w) (hN : N ≤ 4096) (hi : i < N) (hs : s.size ≤ 562949953421311) (hr : Kd.C Kd.string w A0 path.length path) (hc : path.length ≤ c0)
 (hp : path.length = (TM.wayL 0 N i).length) (h32 : ∀ p ∈ path, p.size = 32) :
 Calls Tryz.prog 75 #[.int .i64 (N : Int), .int .i64 (i : Int), .string s, .slice A0 path.length c0] w fun e w' => ∃ v, e = .returned (.tuple #[v, .int .i64 0]) ∧
  w'.ownsRow w.heap.size 9 1 v (path.length + 2) ((TM.climbF sumB (TM.rights 0 N i) path [TM.leafB s] ++ [rootB N (sumB (TM.lastB (TM.climbF sumB (TM.rights 0 N i) path [TM.leafB s])))]).map .string) ∧ Below w.heap.size w w' := by
 have h12 := TM.way_le 12 N 0 i hN
 have hd1 : decide ((N : Int) < 1) = false := by simp; omega
 have hd2 : decide ((4096 : Int) < (N : Int)) = false := by simp; omega
 have hd3 : decide ((i : Int) < 0) = false := by simp
 have hd4 : decide ((N : Int) ≤ (i : Int)) = false := by simp; omega
 have hd5 : decide (N ≤ i) = false := by simp; omega
 have HT := Lib.hid hT; have HR := Lib.hid hr; have HP := Lib.hid hp; have H32 := Lib.hid h32; have HS := Lib.hid hs
 clear hT hr h32 hp hs
 go_enter Tryz.func75, Tryz.ntmps75
 go_wp2_with (go_at_call 108; refine Pause'.out ?_)
 constructor
 refine (way_any _ _ _).mono ?_
 rintro e u ⟨rfl, rfl⟩
 go_wp2_with (go_at_call 107; refine Pause'.out ?_)
 constructor
 have bN := (Boxed.new w 3 (.int .i64 (N : Int))).alloc (.cells #[.int .i64 (i : Int)] 3)
 have bI := Boxed.new (w.alloc (.cells #[.int .i64 (N : Int)] 3)) 3 (.int .i64 (i : Int))
 have hB0 : Below w.heap.size w ((w.alloc (.cells #[.int .i64 (N : Int)] 3)).alloc (.cells #[.int .i64 (i : Int)] 3)) := ((Below.refl _ w).alloc (Nat.le_refl _) _).alloc (by simp) _
 simp only [World.size_alloc] at bI
 have hsz : ((w.alloc (.cells #[.int .i64 (N : Int)] 3)).alloc (.cells #[.int .i64 (i : Int)] 3)).heap.size = w.heap.size + 2 := by simp
 generalize (w.alloc (.cells #[.int .i64 (N : Int)] 3)).alloc (.cells #[.int .i64 (i : Int)] 3) = W0 at *
 refine (collect_any N hN i hi w.heap.size (w.heap.size + 1) W0 (by omega) bI bN.cell).mono ?_
 rintro e u ⟨v, rfl, h1, h2⟩
 have hB := hB0.trans (h2.mono (by omega))
 have HA := Lib.hid (And.intro h1 hB)
 obtain ⟨vA, vc, hv⟩ : ∃ A c, v = .slice A (TM.wayL 0 N i).length c := by
  rcases h1.2 with ⟨rfl, h0⟩ | ⟨g, cap, cur, rfl, _⟩
  · exact ⟨none, 0, by rw [h0]⟩
  · exact ⟨_, _, rfl⟩
 subst hv
 have hW0 : w.heap.size ≤ W0.heap.size := by omega
 clear h1 h2 hB bN bI hB0 hsz
 have hbe : ((path.length : Int) != ((TM.wayL 0 N i).length : Int)) = false := by rw [HP.out]; simp
 have hbe2 : (path.length == (TM.wayL 0 N i).length) = true := by rw [HP.out]; simp
 go_wp2_with (go_at_call 67; refine Pause'.out ?_)
 constructor
 have HCF := Lib.hid (contains_any A0 c0 path false u (Kd.C_below HR.out HA.out.2) (by rw [HP.out]; omega) (by
  symm
  rw [List.any_eq_false]
  intro p hp
  simpa using H32.out p hp))
 refine HCF.out.mono ?_
 rintro e u1 ⟨rfl, hb1⟩
 have HA1 := Lib.hid (And.intro (Kd.own_step HA.out.1 hb1) (HA.out.2.trans (hb1.mono HA.out.2.size)))
 clear hb1 HCF HA
 go_wp2_with (go_at_call 110; refine Pause'.out ?_)
 constructor
 refine (revSides_any _ _ (TM.wayL 0 N i) _ HA1.out.1 (by omega)).mono ?_
 rintro e u2 ⟨rfl, h1, hg⟩
 have HA2 := Lib.hid (And.intro h1 (HA1.out.2.grown hg HA1.out.2.size (fun k e => Nat.le_trans hW0 (HA1.out.1.lt k e).1)))
 clear h1 hg HA1
 go_wp2_with (go_at_call 111; refine Pause'.out ?_)
 constructor
 refine (leaf_any s HS.out _).mono ?_
 rintro e u3 ⟨rfl, hb3⟩
 have HA3 := Lib.hid (And.intro (Kd.own_step HA2.out.1 hb3) (HA2.out.2.trans (hb3.mono HA2.out.2.size)))
 clear hb3 HA2
 have hz3 := HA3.out.2.size
 obtain ⟨lf, hlf⟩ : ∃ lf, lf = TM.leafB s := ⟨_, rfl⟩
 rw [← hlf]
 have HLF := Lib.hid hlf
 clear hlf
 go_wp2
 have hst := Lib.hid (Kd.own_step HA3.out.1 ((Below.refl u3.heap.size u3).alloc (Nat.le_refl _) (.cells #[.string lf] 9)))
 have hbw := HA3.out.2.alloc hz3 (.cells #[.string lf] 9)
 have hnw := Lib.hid (own_new u3 w.heap.size 9 [.string lf] hz3 (by show 1 ≤ maxLen; decide))
 clear HA3
 go_loopw [12, 52] (fun x y wr => ∃ k : Nat, y = .int .i64 (k : Int) ∧ k ≤ (TM.wayL 0 N i).length ∧ Hid (wr.ownsRow w.heap.size 9 1 x (k + 1) ((outK N i s path k).map .string)) ∧ Hid (wr.ownsRow W0.heap.size 152 3 (.slice vA (TM.wayL 0 N i).length vc) (TM.wayL 0 N i).length ((TM.wayL 0 N i).reverse.flatMap sideE)) ∧ Below w.heap.size w wr) (fun _ y _ => (TM.wayL 0 N i).length + 1 - (intOf y).toNat)
 case atStart =>
  refine ⟨0, rfl, by omega, ?_, hst, hbw⟩
  have h0 := hnw.out
  rw [HLF.out] at h0 ⊢
  exact Lib.hid h0
 case round =>
  clear hst hbw hnw
  obtain ⟨k, rfl, hk, HO, HST, hB⟩ := hrel
  by_cases hlt : k < (TM.wayL 0 N i).length
  · have hlt1 : decide ((k : Int) < ((TM.wayL 0 N i).length : Int)) = true := by simp; omega
    have hlt2 : decide (k < (TM.wayL 0 N i).length) = true := by simp; omega
    obtain ⟨g, cap, rfl⟩ := ownsRow_succ HO.out
    obtain ⟨gs, rfl⟩ : ∃ gs, vA = some ⟨gs, 0, none⟩ := by
     rcases HST.out.2 with ⟨_, h0⟩ | ⟨gs, _, _, e, _⟩
     · omega
     · injection e with e1
       exact ⟨gs, e1⟩
    obtain ⟨⟨bb, lo, hi'⟩, hX⟩ : ∃ x, (TM.wayL 0 N i).reverse[k]? = some x := ⟨_, List.getElem?_eq_getElem (by simpa using hlt)⟩
    obtain ⟨hc0, hc1, hc2⟩ := side_cells HST.out (by simpa using hX)
    dsimp only at hc0 hc1 hc2
    obtain ⟨ot, hot⟩ : ∃ ot, ot = TM.lastB (outK N i s path k) := ⟨_, rfl⟩
    have hco : wr.cell? ⟨g, k, none⟩ = some (.string ot) := own_cell HO.out (by rw [List.getElem?_map, last_get (outK_length HP.out (by rw [HP.out]; omega)), hot]; rfl)
    have HX := Lib.hid (And.intro hX hot)
    clear hX hot
    have hos : Hid (ot.size ≤ 562949953421312) := Lib.hid (by
     rw [HX.out.2]
     exact outK_size HS.out H32.out HP.out k (by rw [HP.out]; omega) _ (List.mem_of_getElem? (last_get (outK_length HP.out (by rw [HP.out]; omega)))))
    have H32' := Lib.hid (show ∀ k, k < path.length → (path.getD k ByteArray.empty).size = 32 from fun k hk => by
     rw [List.getD_eq_getElem?_getD, List.getElem?_eq_getElem hk]
     exact H32.out _ (List.getElem_mem _))
    cases bb
    · have hco2 : (wr.alloc (.cells #[.bool false, .int .i64 (lo : Int), .int .i64 (hi' : Int)] 152)).cell? ⟨g, k, none⟩ = some (.string ot) := cell_alloc_l' _ hco
      have hnb := (RowIs.new wr 152 [.bool false, .int .i64 (lo : Int), .int .i64 (hi' : Int)]).cell (i := 0) rfl
      have hBW := hB.alloc hB.size (.cells #[.bool false, .int .i64 (lo : Int), .int .i64 (hi' : Int)] 152)
      have hBA := (Below.refl wr.heap.size wr).alloc (Nat.le_refl _) (.cells #[.bool false, .int .i64 (lo : Int), .int .i64 (hi' : Int)] 152)
      have HW := Lib.hid (And.intro hnb (And.intro hBW hBA))
      clear hnb hBW hBA
      go_wp2_with (go_at_call 76; refine Pause'.out ?_)
      constructor
      obtain ⟨hnb, hBW, hBA⟩ := HW.out
      refine (sum_any ot hos.out _ (HT.out.below hBW HT.out.size)).mono ?_
      rintro e u4 ⟨rfl, hb4⟩
      have hrt := (hb4.cell (p := ⟨wr.heap.size, 0, none⟩) (by simp)).trans hnb
      have hB4 := Lib.hid (hBW.trans (hb4.mono hBW.size))
      have hB4r := Lib.hid (hBA.trans (hb4.mono hBA.size))
      obtain ⟨ap, hap, hpc⟩ := Kd.at_string (Kd.C_below HR.out hB4.out) k (by omega) (by rw [HP.out]; omega)
      subst hap
      have hpc' : u4.cell? (ap.add k) = some (.string (path.getD k ByteArray.empty)) := hpc
      have hlp : decide (k < path.length) = true := by rw [HP.out]; simp; omega
      have hlp2 : (k : Int) < (path.length : Int) := by rw [HP.out]; omega
      obtain ⟨pk, hpk⟩ : ∃ pk, pk = path.getD k ByteArray.empty := ⟨_, rfl⟩
      rw [← hpk] at hpc'
      have HPK := Lib.hid hpk
      have hp32 := Lib.hid (H32'.out k (by rw [HP.out]; exact hlt))
      rw [← hpk] at hp32
      have HN := Lib.hid (node_any pk (sumB ot) (by rw [sumB_size, hp32.out]; decide))
      obtain ⟨own, hown0⟩ : ∃ own, own = sumB ot := ⟨_, rfl⟩
      rw [← hown0] at HN ⊢
      have HOWN := Lib.hid hown0
      obtain ⟨nd, hnd⟩ : ∃ nd, nd = TM.nodeB pk own := ⟨_, rfl⟩
      rw [← hnd] at HN
      have HND := Lib.hid hnd
      clear hpk hpc hown0 hnd hb4 hnb hBW hBA HW hco hco2 hc0 hc1 hc2
      go_wp2_with (go_at_call 112; refine Pause'.out ?_)
      constructor
      refine (HN.out _).mono ?_
      rintro e u5 ⟨rfl, hb5⟩
      have hB5 := hB4.out.trans (hb5.mono hB4.out.size)
      have hB5r := hB4r.out.trans (hb5.mono hB4r.out.size)
      have HO5 := Lib.hid (Kd.own_step HO.out hB5r)
      have HS5 := Lib.hid (Kd.own_step HST.out hB5r)
      have hz5 := hB5.size
      have HB5 := Lib.hid hB5
      clear hb5 hB5 hB5r hrt hpc' HN
      obtain ⟨i0, hi0, hz0, hsz0, hby0⟩ := info_parts infoStr
      go_wp2_with (at_builtin; refine wpList_append_own _ rfl _ _ 45 rfl w.heap.size 9 i0 (.string ⟨#[]⟩) 1 16 Tryz.underlying45 hi0 hz0 hsz0 hby0 rfl (by decide) _ _ _ rfl (HO5.out.alloc _) ⟨u5.heap.size, 0, none⟩ 1 1 [.string nd] rfl rfl (cells_new _ _ _) (by simp [Value.oneCell']) (by unfold maxLen; omega) (by omega) (by simp; omega) ?_; intro v' w1 hown' hgrow _; obtain ⟨g', cap', rfl⟩ := ownsRow_succ hown'; have HX2 := Lib.hid (And.intro hown' hgrow); clear hown' hgrow)
      obtain ⟨hown', hgrow⟩ := HX2.out
      go_roundw
      case rel =>
       refine ⟨k + 1, by go_num, by omega, ?_, ?_, ?_⟩
       · have h2 : path[k]? = some pk := by
          rw [HPK.out, List.getD_eq_getElem?_getD, List.getElem?_eq_getElem (by rw [HP.out]; exact hlt)]
          rfl
         rw [outK_succ (rights_get HX.out.1) h2, strs_snoc', ← HX.out.2, ← HOWN.out]
         have := hown'
         rw [HND.out] at this
         exact Lib.hid this
       · exact Lib.hid (own_other (HS5.out.alloc _) (HO5.out.alloc _) (by decide) hgrow)
       · exact (HB5.out.alloc hz5 _).grown hgrow (by simp; omega) (fun k e => (HO5.out.lt k e).1)
      case measure => simp [intOf]; omega
    · have hco2 : (wr.alloc (.cells #[.bool true, .int .i64 (lo : Int), .int .i64 (hi' : Int)] 152)).cell? ⟨g, k, none⟩ = some (.string ot) := cell_alloc_l' _ hco
      have hnb := (RowIs.new wr 152 [.bool true, .int .i64 (lo : Int), .int .i64 (hi' : Int)]).cell (i := 0) rfl
      have hBW := hB.alloc hB.size (.cells #[.bool true, .int .i64 (lo : Int), .int .i64 (hi' : Int)] 152)
      have hBA := (Below.refl wr.heap.size wr).alloc (Nat.le_refl _) (.cells #[.bool true, .int .i64 (lo : Int), .int .i64 (hi' : Int)] 152)
      have HW := Lib.hid (And.intro hnb (And.intro hBW hBA))
      clear hnb hBW hBA
      go_wp2_with (go_at_call 76; refine Pause'.out ?_)
      constructor
      obtain ⟨hnb, hBW, hBA⟩ := HW.out
      refine (sum_any ot hos.out _ (HT.out.below hBW HT.out.size)).mono ?_
      rintro e u4 ⟨rfl, hb4⟩
      have hrt := (hb4.cell (p := ⟨wr.heap.size, 0, none⟩) (by simp)).trans hnb
      have hB4 := Lib.hid (hBW.trans (hb4.mono hBW.size))
      have hB4r := Lib.hid (hBA.trans (hb4.mono hBA.size))
      obtain ⟨ap, hap, hpc⟩ := Kd.at_string (Kd.C_below HR.out hB4.out) k (by omega) (by rw [HP.out]; omega)
      subst hap
      have hpc' : u4.cell? (ap.add k) = some (.string (path.getD k ByteArray.empty)) := hpc
      have hlp : decide (k < path.length) = true := by rw [HP.out]; simp; omega
      have hlp2 : (k : Int) < (path.length : Int) := by rw [HP.out]; omega
      obtain ⟨pk, hpk⟩ : ∃ pk, pk = path.getD k ByteArray.empty := ⟨_, rfl⟩
      rw [← hpk] at hpc'
      have HPK := Lib.hid hpk
      have hp32 := Lib.hid (H32'.out k (by rw [HP.out]; exact hlt))
      rw [← hpk] at hp32
      have HN := Lib.hid (node_any (sumB ot) pk (by rw [sumB_size, hp32.out]; decide))
      obtain ⟨own, hown0⟩ : ∃ own, own = sumB ot := ⟨_, rfl⟩
      rw [← hown0] at HN ⊢
      have HOWN := Lib.hid hown0
      obtain ⟨nd, hnd⟩ : ∃ nd, nd = TM.nodeB own pk := ⟨_, rfl⟩
      rw [← hnd] at HN
      have HND := Lib.hid hnd
      clear hpk hpc hown0 hnd hb4 hnb hBW hBA HW hco hco2 hc0 hc1 hc2
      go_wp2_with (go_at_call 112; refine Pause'.out ?_)
      constructor
      refine (HN.out _).mono ?_
      rintro e u5 ⟨rfl, hb5⟩
      have hB5 := hB4.out.trans (hb5.mono hB4.out.size)
      have hB5r := hB4r.out.trans (hb5.mono hB4r.out.size)
      have HO5 := Lib.hid (Kd.own_step HO.out hB5r)
      have HS5 := Lib.hid (Kd.own_step HST.out hB5r)
      have hz5 := hB5.size
      have HB5 := Lib.hid hB5
      clear hb5 hB5 hB5r hrt hpc' HN
      obtain ⟨i0, hi0, hz0, hsz0, hby0⟩ := info_parts infoStr
      go_wp2_with (at_builtin; refine wpList_append_own _ rfl _ _ 45 rfl w.heap.size 9 i0 (.string ⟨#[]⟩) 1 16 Tryz.underlying45 hi0 hz0 hsz0 hby0 rfl (by decide) _ _ _ rfl (HO5.out.alloc _) ⟨u5.heap.size, 0, none⟩ 1 1 [.string nd] rfl rfl (cells_new _ _ _) (by simp [Value.oneCell']) (by unfold maxLen; omega) (by omega) (by simp; omega) ?_; intro v' w1 hown' hgrow _; obtain ⟨g', cap', rfl⟩ := ownsRow_succ hown'; have HX2 := Lib.hid (And.intro hown' hgrow); clear hown' hgrow)
      obtain ⟨hown', hgrow⟩ := HX2.out
      go_roundw
      case rel =>
       refine ⟨k + 1, by go_num, by omega, ?_, ?_, ?_⟩
       · have h2 : path[k]? = some pk := by
          rw [HPK.out, List.getD_eq_getElem?_getD, List.getElem?_eq_getElem (by rw [HP.out]; exact hlt)]
          rfl
         rw [outK_succ (rights_get HX.out.1) h2, strs_snoc', ← HX.out.2, ← HOWN.out]
         have := hown'
         rw [HND.out] at this
         exact Lib.hid this
       · exact Lib.hid (own_other (HS5.out.alloc _) (HO5.out.alloc _) (by decide) hgrow)
       · exact (HB5.out.alloc hz5 _).grown hgrow (by simp; omega) (fun k e => (HO5.out.lt k e).1)
      case measure => simp [intOf]; omega
  · obtain rfl : k = (TM.wayL 0 N i).length := by omega
    have hlt1 : decide (((TM.wayL 0 N i).length : Int) < ((TM.wayL 0 N i).length : Int)) = false := by simp
    have hlt2 : decide ((TM.wayL 0 N i).length < (TM.wayL 0 N i).length) = false := by simp
    obtain ⟨g, cap, rfl⟩ := ownsRow_succ HO.out
    have HK := Lib.hid (show outK N i s path (TM.wayL 0 N i).length = TM.climbF sumB (TM.rights 0 N i) path [TM.leafB s] by rw [← HP.out]; exact outK_all HP.out)
    obtain ⟨ot, hot⟩ : ∃ ot, ot = TM.lastB (TM.climbF sumB (TM.rights 0 N i) path [TM.leafB s]) := ⟨_, rfl⟩
    have hco : wr.cell? ⟨g, (TM.wayL 0 N i).length, none⟩ = some (.string ot) := own_cell HO.out (by rw [List.getElem?_map, last_get (outK_length HP.out (by rw [HP.out]; omega)), HK.out, hot]; rfl)
    have hos := Lib.hid (show ot.size ≤ 562949953421312 by
     rw [hot, ← HK.out]
     exact outK_size HS.out H32.out HP.out _ (by rw [HP.out]; omega) _ (List.mem_of_getElem? (last_get (outK_length HP.out (by rw [HP.out]; omega)))))
    have HOT := Lib.hid hot
    have HB := Lib.hid hB
    clear hot hB hk
    generalize hnn : (TM.wayL 0 N i).length = nn at *
    go_wp2_with (go_at_call 76; refine Pause'.out ?_)
    constructor
    refine (sum_any ot hos.out _ (HT.out.below HB.out HT.out.size)).mono ?_
    rintro e u4 ⟨rfl, hb4⟩
    have HB4 := Lib.hid (HB.out.trans (hb4.mono HB.out.size))
    have HO4 := Lib.hid (Kd.own_step HO.out hb4)
    obtain ⟨cr, hcr⟩ : ∃ cr, cr = sumB ot := ⟨_, rfl⟩
    have HRt := Lib.hid (root_any N hN cr (by rw [hcr, sumB_size]; decide))
    rw [← hcr]
    have HCR := Lib.hid hcr
    obtain ⟨rb, hrb⟩ : ∃ rb, rb = rootB N cr := ⟨_, rfl⟩
    rw [← hrb] at HRt
    have HRB := Lib.hid hrb
    clear hb4 hcr hrb hco HB HO hlt hlt1 hlt2 hnn
    go_wp2_with (go_at_call 113; refine Pause'.out ?_)
    constructor
    refine (HRt.out _).mono ?_
    rintro e u5 ⟨rfl, hb5⟩
    have HB5 := Lib.hid (HB4.out.trans (hb5.mono HB4.out.size))
    have HO5 := Lib.hid (Kd.own_step HO4.out hb5)
    have hz5 := HB5.out.size
    clear hb5 HB4 HO4 HRt
    obtain ⟨i0, hi0, hz0, hsz0, hby0⟩ := info_parts infoStr
    go_wp2_with (at_builtin; refine wpList_append_own _ rfl _ _ 45 rfl w.heap.size 9 i0 (.string ⟨#[]⟩) 1 16 Tryz.underlying45 hi0 hz0 hsz0 hby0 rfl (by decide) _ _ _ rfl (HO5.out.alloc _) ⟨u5.heap.size, 0, none⟩ 1 1 [.string rb] rfl rfl (cells_new _ _ _) (by simp [Value.oneCell']) (by unfold maxLen; omega) (by omega) (by simp; omega) ?_; intro v' w1 hown' hgrow _; obtain ⟨g', cap', rfl⟩ := ownsRow_succ hown'; have HX2 := Lib.hid (And.intro hown' hgrow); clear hown' hgrow)
    obtain ⟨hown', hgrow⟩ := HX2.out
    refine bodyPost_ret (v := .tuple #[.slice (some ⟨g', 0, none⟩) (nn + 1 + 1) cap', .int .i64 0]) (by simp [results, Tryz.results75, go_sem]) rfl ⟨_, rfl, ?_, (HB5.out.alloc hz5 _).grown hgrow (by simp; omega) (fun k e => (HO5.out.lt k e).1)⟩
    rw [HK.out, ← strs_snoc', HRB.out, HCR.out, HOT.out] at hown'
    rw [HP.out]
    exact hown'
def tree_Climb.f (n i : Int) (s : ByteArray) (path : List ByteArray) : Option (List ByteArray × Int) :=
 if n < 1 ∨ 4096 < n ∨ i < 0 ∨ n ≤ i then some ([], 1)
 else if path.length ≠ (TM.wayL 0 n.toNat i.toNat).length ∨ ∃ p ∈ path, p.size ≠ 32 then some ([], 14)
 else if s.size ≤ 562949953421311 then some (TM.climbF sumB (TM.rights 0 n.toNat i.toNat) path [TM.leafB s] ++ [rootB n.toNat (sumB (TM.lastB (TM.climbF sumB (TM.rights 0 n.toNat i.toNat) path [TM.leafB s])))], 0)
 else none
theorem climb_arg1 (n i : Int) (s : ByteArray) (A0 : Option Addr) (c0 : Nat) (path : List ByteArray) (w : World) (h : n < 1) :
 Calls Tryz.prog 75 #[.int .i64 n, .int .i64 i, .string s, .slice A0 path.length c0] w fun e w' => e = .returned (.tuple #[.slice none 0 0, .int .i64 1]) ∧ Below w.heap.size w w' := by
 have hB := Lib.hid (Below.refl w.heap.size w)
 have d7663 : decide (n < 1) = true := by simp; omega
 go_enter Tryz.func75, Tryz.ntmps75
 go_wp2
 refine bodyPost_ret (v := .tuple #[.slice none 0 0, .int .i64 1]) (by simp [results, Tryz.results75, go_sem]) rfl ⟨rfl, hB.out⟩
theorem climb_arg2 (n i : Int) (s : ByteArray) (A0 : Option Addr) (c0 : Nat) (path : List ByteArray) (w : World) (h0 : ¬ n < 1) (h : 4096 < n) :
 Calls Tryz.prog 75 #[.int .i64 n, .int .i64 i, .string s, .slice A0 path.length c0] w fun e w' => e = .returned (.tuple #[.slice none 0 0, .int .i64 1]) ∧ Below w.heap.size w w' := by
 have hB := Lib.hid (Below.refl w.heap.size w)
 have d7663 : decide (n < 1) = false := by simp; omega
 have d2580 : decide (4096 < n) = true := by simp; omega
 go_enter Tryz.func75, Tryz.ntmps75
 go_wp2
 refine bodyPost_ret (v := .tuple #[.slice none 0 0, .int .i64 1]) (by simp [results, Tryz.results75, go_sem]) rfl ⟨rfl, hB.out⟩
theorem climb_arg3 (n i : Int) (s : ByteArray) (A0 : Option Addr) (c0 : Nat) (path : List ByteArray) (w : World) (h0 : ¬ n < 1) (h1 : ¬ 4096 < n) (h : i < 0) :
 Calls Tryz.prog 75 #[.int .i64 n, .int .i64 i, .string s, .slice A0 path.length c0] w fun e w' => e = .returned (.tuple #[.slice none 0 0, .int .i64 1]) ∧ Below w.heap.size w w' := by
 have hB := Lib.hid (Below.refl w.heap.size w)
 have d7663 : decide (n < 1) = false := by simp; omega
 have d2580 : decide (4096 < n) = false := by simp; omega
 have d2227 : decide (i < 0) = true := by simp; omega
 go_enter Tryz.func75, Tryz.ntmps75
 go_wp2
 refine bodyPost_ret (v := .tuple #[.slice none 0 0, .int .i64 1]) (by simp [results, Tryz.results75, go_sem]) rfl ⟨rfl, hB.out⟩
theorem climb_arg4 (n i : Int) (s : ByteArray) (A0 : Option Addr) (c0 : Nat) (path : List ByteArray) (w : World) (h0 : ¬ n < 1) (h1 : ¬ 4096 < n) (h2 : ¬ i < 0) (h : n ≤ i) :
 Calls Tryz.prog 75 #[.int .i64 n, .int .i64 i, .string s, .slice A0 path.length c0] w fun e w' => e = .returned (.tuple #[.slice none 0 0, .int .i64 1]) ∧ Below w.heap.size w w' := by
 have hB := Lib.hid (Below.refl w.heap.size w)
 have d7663 : decide (n < 1) = false := by simp; omega
 have d2580 : decide (4096 < n) = false := by simp; omega
 have d2227 : decide (i < 0) = false := by simp; omega
 have d8312 : decide (n ≤ i) = true := by simp; omega
 go_enter Tryz.func75, Tryz.ntmps75
 go_wp2
 refine bodyPost_ret (v := .tuple #[.slice none 0 0, .int .i64 1]) (by simp [results, Tryz.results75, go_sem]) rfl ⟨rfl, hB.out⟩
theorem climb_bad (N i : Nat) (s : ByteArray) (A0 : Option Addr) (c0 : Nat) (path : List ByteArray) (w : World) (hN : N ≤ 4096) (hi : i < N) (hr : Kd.C Kd.string w A0 path.length path) (hc : path.length ≤ c0)
 (hbad : path.length ≠ (TM.wayL 0 N i).length ∨ ∃ p ∈ path, p.size ≠ 32) :
 Calls Tryz.prog 75 #[.int .i64 (N : Int), .int .i64 (i : Int), .string s, .slice A0 path.length c0] w fun e w' => e = .returned (.tuple #[.slice none 0 0, .int .i64 14]) ∧ Below w.heap.size w w' := by
 have h12 := TM.way_le 12 N 0 i hN
 have hd1 : decide ((N : Int) < 1) = false := by simp; omega
 have hd2 : decide ((4096 : Int) < (N : Int)) = false := by simp; omega
 have hd3 : decide ((i : Int) < 0) = false := by simp
 have hd4 : decide ((N : Int) ≤ (i : Int)) = false := by simp; omega
 have hd5 : decide (N ≤ i) = false := by simp; omega
 have HR := Lib.hid hr; have HBad := Lib.hid hbad
 clear hr hbad
 go_enter Tryz.func75, Tryz.ntmps75
 go_wp2_with (go_at_call 108; refine Pause'.out ?_)
 constructor
 refine (way_any _ _ _).mono ?_
 rintro e u ⟨rfl, rfl⟩
 go_wp2_with (go_at_call 107; refine Pause'.out ?_)
 constructor
 have bN := (Boxed.new w 3 (.int .i64 (N : Int))).alloc (.cells #[.int .i64 (i : Int)] 3)
 have bI := Boxed.new (w.alloc (.cells #[.int .i64 (N : Int)] 3)) 3 (.int .i64 (i : Int))
 have hB0 : Below w.heap.size w ((w.alloc (.cells #[.int .i64 (N : Int)] 3)).alloc (.cells #[.int .i64 (i : Int)] 3)) := ((Below.refl _ w).alloc (Nat.le_refl _) _).alloc (by simp) _
 simp only [World.size_alloc] at bI
 have hsz : ((w.alloc (.cells #[.int .i64 (N : Int)] 3)).alloc (.cells #[.int .i64 (i : Int)] 3)).heap.size = w.heap.size + 2 := by simp
 generalize (w.alloc (.cells #[.int .i64 (N : Int)] 3)).alloc (.cells #[.int .i64 (i : Int)] 3) = W0 at *
 refine (collect_any N hN i hi w.heap.size (w.heap.size + 1) W0 (by omega) bI bN.cell).mono ?_
 rintro e u ⟨v, rfl, h1, h2⟩
 have hB := hB0.trans (h2.mono (by omega))
 have HA := Lib.hid hB
 obtain ⟨vA, vc, hv⟩ : ∃ A c, v = .slice A (TM.wayL 0 N i).length c := by
  rcases h1.2 with ⟨rfl, h0⟩ | ⟨g, cap, cur, rfl, _⟩
  · exact ⟨none, 0, by rw [h0]⟩
  · exact ⟨_, _, rfl⟩
 subst hv
 clear h1 h2 hB bN bI hB0 hsz
 by_cases hp : path.length = (TM.wayL 0 N i).length
 · have hany : path.any (fun p => decide (p.size ≠ 32)) = true := by
    rcases HBad.out with h | ⟨p, hp1, hp2⟩
    · exact absurd hp h
    · exact List.any_eq_true.2 ⟨p, hp1, by simpa using hp2⟩
   have HP := Lib.hid hp
   have HCF := Lib.hid (contains_any A0 c0 path true u (Kd.C_below HR.out HA.out) (by rw [hp]; omega) hany.symm)
   have hbe : ((path.length : Int) != ((TM.wayL 0 N i).length : Int)) = false := by rw [HP.out]; simp
   have hbe2 : (path.length == (TM.wayL 0 N i).length) = true := by rw [HP.out]; simp
   clear hp hany HBad
   go_wp2_with (go_at_call 67; refine Pause'.out ?_)
   constructor
   refine HCF.out.mono ?_
   rintro e u1 ⟨rfl, hb1⟩
   have HA1 := Lib.hid (HA.out.trans (hb1.mono HA.out.size))
   clear hb1 HCF
   go_wp2
   refine bodyPost_ret (v := .tuple #[.slice none 0 0, .int .i64 14]) (by simp [results, Tryz.results75, go_sem]) rfl ⟨rfl, HA1.out⟩
 · have hbe : ((path.length : Int) != ((TM.wayL 0 N i).length : Int)) = true := bne_iff_ne.mpr (by omega)
   have hbe2 : (path.length == (TM.wayL 0 N i).length) = false := beq_eq_false_iff_ne.mpr hp
   clear hp HBad
   go_wp2
   refine bodyPost_ret (v := .tuple #[.slice none 0 0, .int .i64 14]) (by simp [results, Tryz.results75, go_sem]) rfl ⟨rfl, HA.out⟩
theorem tree_Climb.calls (a0 a1 : Int) (a2 : ByteArray) (A3 : Option Addr) (c3 : Nat) (l3 : List ByteArray) (r1 : List ByteArray) (r2 : Int) (w : World) (hT : Tabs w) (hr3 : Kd.C Kd.string w A3 l3.length l3) (hc3 : l3.length ≤ c3) (h : tree_Climb.f a0 a1 a2 l3 = some (r1, r2)) :
 Calls Tryz.prog 75 #[.int .i64 a0, .int .i64 a1, .string a2, .slice A3 l3.length c3] w fun e w' => ∃ v0_ : Value, e = .returned (.tuple #[v0_, .int .i64 r2]) ∧ Kd.R Kd.string 9 w' w.heap.size (fun _ => True) v0_ r1 ∧ Below w.heap.size w w' := by
 unfold tree_Climb.f at h
 have fin : ∀ k : Int, some (([] : List ByteArray), k) = some (r1, r2) → (Calls Tryz.prog 75 #[.int .i64 a0, .int .i64 a1, .string a2, .slice A3 l3.length c3] w fun e w' => e = .returned (.tuple #[.slice none 0 0, .int .i64 k]) ∧ Below w.heap.size w w') →
  Calls Tryz.prog 75 #[.int .i64 a0, .int .i64 a1, .string a2, .slice A3 l3.length c3] w fun e w' => ∃ v0_ : Value, e = .returned (.tuple #[v0_, .int .i64 r2]) ∧ Kd.R Kd.string 9 w' w.heap.size (fun _ => True) v0_ r1 ∧ Below w.heap.size w w' := fun k hk hcall => by
  obtain ⟨rfl, rfl⟩ := Prod.mk.inj (Option.some.inj hk)
  exact hcall.mono fun e w' ⟨he, hb⟩ => ⟨_, he, Kd.R_nil _ _ _ _ _, hb⟩
 by_cases h1 : a0 < 1
 · rw [if_pos (.inl h1)] at h
   exact fin _ h (climb_arg1 _ _ _ _ _ _ _ h1)
 by_cases h2 : 4096 < a0
 · rw [if_pos (.inr (.inl h2))] at h
   exact fin _ h (climb_arg2 _ _ _ _ _ _ _ h1 h2)
 by_cases h3 : a1 < 0
 · rw [if_pos (.inr (.inr (.inl h3)))] at h
   exact fin _ h (climb_arg3 _ _ _ _ _ _ _ h1 h2 h3)
 by_cases h4 : a0 ≤ a1
 · rw [if_pos (.inr (.inr (.inr h4)))] at h
   exact fin _ h (climb_arg4 _ _ _ _ _ _ _ h1 h2 h3 h4)
 rw [if_neg (by omega)] at h
 obtain ⟨N, rfl⟩ : ∃ N : Nat, a0 = (N : Int) := ⟨a0.toNat, by omega⟩
 obtain ⟨i, rfl⟩ : ∃ i : Nat, a1 = (i : Int) := ⟨a1.toNat, by omega⟩
 rw [Int.toNat_natCast, Int.toNat_natCast] at h
 by_cases h5 : l3.length ≠ (TM.wayL 0 N i).length ∨ ∃ p ∈ l3, p.size ≠ 32
 · rw [if_pos h5] at h
   exact fin _ h (climb_bad N i a2 A3 c3 l3 w (by omega) (by omega) hr3 hc3 h5)
 · rw [if_neg h5] at h
   by_cases h6 : a2.size ≤ 562949953421311
   · rw [if_pos h6] at h
     obtain ⟨rfl, rfl⟩ := Prod.mk.inj (Option.some.inj h)
     have h7 : l3.length = (TM.wayL 0 N i).length := Decidable.byContradiction fun hn => h5 (.inl hn)
     refine (climb_any N i a2 A3 c3 l3 w hT (by omega) (by omega) h6 hr3 hc3 h7 (fun p hp => Decidable.byContradiction fun hn => h5 (.inr ⟨p, hp, hn⟩))).mono ?_
     rintro e w' ⟨v, he, ho, hb⟩
     refine ⟨v, he, Kd.R_of_own ?_ (fun _ _ => trivial), hb⟩
     rw [List.length_append, TM.climbF_length sumB _ _ _ (by rw [TM.rights_length, h7]), TM.rights_length, ← h7]
     have : [TM.leafB a2].length + l3.length + [rootB N (sumB (TM.lastB (TM.climbF sumB (TM.rights 0 N i) l3 [TM.leafB a2])))].length = l3.length + 2 := by simp; omega
     rw [this]
     exact ho
   · rw [if_neg h6] at h
     cases h
end Go.Proofs.YtjlpjpjodhkpdaaGreatDoor
