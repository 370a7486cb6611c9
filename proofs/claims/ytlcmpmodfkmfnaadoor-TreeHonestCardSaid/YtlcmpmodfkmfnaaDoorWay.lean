/- tree.way: an iterator over the steps from the root to a place: its contract (SeqStopsK). -/
import Derived.RangeFuncNested
import Derived.RangeFuncBound
import Derived.RangeFuncCalls
import Derived.RangeFuncLeaves
import Derived.Shelf.Abstract
import Derived.Shelf.RegionOpen
import Derived.WalkKit
import Derived.OwnWalkIn
import Derived.TacticsInMore
import Derived.LoopNIn
import Derived.LoopIn
import Derived.Maps.AppendAt
import Derived.Test.YtlcmpmodfkmfnaaDoorCrown
set_option linter.unusedVariables false
set_option linter.unusedSimpArgs false
namespace Go.Proofs.YtlcmpmodfkmfnaaDoor
open Go.RowKit Go.Proofs.YtlcmpmodfkmfnaaDoorW.PrintWords
attribute [local go_sem] Oper.semAt_some

/-- What comes: a side, its places among N. -/
abbrev Side (N : Nat) := { s : Bool × Nat × Nat // s.2.1 < s.2.2 ∧ s.2.2 ≤ N }
def sideV (x : Bool × Nat × Nat) : Value := .agg #[.bool x.1, .int .i64 (x.2.1 : Int), .int .i64 (x.2.2 : Int)]
def encS (N : Nat) (x : Side N) : Array Value := #[sideV x.1]
/-- What a round keeps: what lay below n₀, and the place's box. -/
def KpW (n₀ Bi : Nat) (A B : World) : Prop := Below n₀ A B ∧ B.heap[Bi]? = A.heap[Bi]?
theorem kpW_t {n₀ Bi : Nat} {A B C : World} (h : KpW n₀ Bi A B) (k : KpW n₀ Bi B C) : KpW n₀ Bi A C := ⟨h.1.trans k.1, k.2.trans h.2⟩

theorem cell_alloc_l' {w : World} {a : Addr} {v : Value} (o : Obj) (h : w.cell? a = some v) : (w.alloc o).cell? a = some v := by
  have hb : a.block < w.heap.size := by
    refine Decidable.byContradiction fun hn => ?_
    have : w.heap[a.block]? = none := Array.getElem?_eq_none_iff.2 (by omega)
    simp [World.cell?, this] at h
  exact (World.cell?_of_block (Below.heap_alloc w o a.block hb)).trans h
theorem half_in (F : Fence) (m : Nat) (n : Nat) (hn : n ≤ 2305843009213693952) (h58 : F.fn 58) (hro : F.round = none) (w : World) :
    CallsIn F m Tryd.prog 58 #[.int .i64 (n : Int)] w fun e w' => e = .returned (.int .i64 (TM.halfN n : Int)) ∧ w' = w := by
  obtain ⟨r, hr⟩ : ∃ r, r = TM.halfN n := ⟨_, rfl⟩
  rw [← hr]
  have HR : Hid (TM.halfFrom 1 n = r) := Lib.hid hr.symm
  clear hr
  refine callsIn_of_wp Tryd.func58 rfl h58 ?_ hro
  simp only [Tryd.ntmps58, List.size_toArray, List.length_cons, List.length_nil, Nat.reduceAdd, Nat.reduceSub, Array.replicate_succ, Array.replicate_zero, List.push_toArray, List.append_toArray, List.nil_append, List.cons_append]
  gi_wp2
  gi_loopw [3] (fun x u => ∃ j : Nat, 0 < j ∧ j ≤ n + 1 ∧ x = .int .i64 (j : Int) ∧ Hid (TM.halfFrom j n = r) ∧ u = w) (fun x _ => n + 1 - (intOf x).toNat)
  case atStart => exact ⟨1, by omega, by omega, rfl, HR, rfl⟩
  case round =>
    clear HR
    obtain ⟨j, h0, hj, rfl, HR, rfl⟩ := hrel
    have hE := HR.out
    rw [TM.halfFrom] at hE
    by_cases hc : 2 * j < n
    · rw [if_pos ⟨h0, hc⟩] at hE
      have HE := Lib.hid hE
      clear hE HR
      have hd : decide (2 * (j : Int) < (n : Int)) = true := by simp; omega
      gi_wp2
      go_roundw
      case rel => exact ⟨2 * j, by omega, by omega, by go_num, HE, by first | trivial | rfl⟩
      case measure => simp [intOf]; omega
    · rw [if_neg (fun h => hc h.2)] at hE
      subst hE
      clear HR
      have hd : decide (2 * (j : Int) < (n : Int)) = false := by simp; omega
      gi_wp2
      go_ret
      exact ⟨rfl, rfl⟩

theorem half_in2 (F : Fence) (m : Nat) (n : Nat) (hn : n ≤ 2305843009213693952) (h58 : F.fn 58) (hro : F.round = none) (x : Int) (w : World) (hx : x = (n : Int)) :
    CallsIn F m Tryd.prog 58 #[.int .i64 x] w fun e w' => e = .returned (.int .i64 (TM.halfN n : Int)) ∧ w' = w := by
  subst hx
  exact half_in F m n hn h58 hro w

set_option maxHeartbeats 1000000 in
theorem way_in (F : Fence) (m : Nat) (h33 : F.fn 33) (hro : F.round = none) (n i : Int) (w : World) :
    CallsIn F m Tryd.prog 33 #[.int .i64 n, .int .i64 i] w fun e w' => e = .returned (.func (.func 57) #[] #[.pointer (some ⟨w.heap.size, 0, none⟩), .pointer (some ⟨w.heap.size + 1, 0, none⟩)]) ∧ w' = (w.alloc (.cells #[.int .i64 n] 3)).alloc (.cells #[.int .i64 i] 3) := by
  refine callsIn_of_wp Tryd.func33 rfl h33 ?_ hro
  simp only [Tryd.ntmps33, List.size_toArray, List.length_cons, List.length_nil, Nat.reduceAdd, Nat.reduceSub, Array.replicate_succ, Array.replicate_zero, List.push_toArray, List.append_toArray, List.nil_append, List.cons_append]
  gi_wp2
  go_ret
  exact ⟨rfl, rfl⟩

set_option maxHeartbeats 1000000 in
set_option maxRecDepth 100000 in
theorem way1_in (F : Fence) (m : Nat) (h57 : F.fn 57) (h58 : F.fn 58) (hro : F.round = none) (hm : 2 ≤ m) (N : Nat) (hN : N ≤ 2305843009213693952) (i : Nat) (hi : i < N) (l Bn Bi n₀ : Nat) (J Jx : List (Side N) → World → Prop)
    (hJ : ∀ s (W W' : World), J s W → W.grownBy W' none → J s W')
    (hY : ∀ pre x W, J pre W → pre.length < (TM.wayL 0 N i).length → YieldAt F (m - 1) Tryd.prog l (encS N x) W fun e W' =>
      (e = .returned (.bool true) ∧ J (pre ++ [x]) W' ∧ KpW n₀ Bi W W') ∨ (e = .returned (.bool false) ∧ Jx (pre ++ [x]) W'))
    (W : World) (hn₀ : n₀ ≤ W.heap.size) (hBi : Bi < W.heap.size) (hcn : W.cell? ⟨Bn, 0, none⟩ = some (.int .i64 (N : Int))) (hci : W.cell? ⟨Bi, 0, none⟩ = some (.int .i64 (i : Int))) (h0 : J [] W) :
    CallsIn F m Tryd.prog 57 #[.func (.yield l) #[] #[], .pointer (some ⟨Bn, 0, none⟩), .pointer (some ⟨Bi, 0, none⟩)] W fun e W' => (∃ v, e = .returned v) ∧
      ((∃ ys : List (Side N), ys.map (·.1) = TM.wayL 0 N i ∧ J ys W') ∨ (∃ pre : List (Side N), True ∧ Jx pre W')) := by
  have h1 : 1 ≤ m := by omega
  have mixed : Tryd.prog.follows .mixedOrders = true := by kernel_rfl
  have HD : W.drew.cell? ⟨Bn, 0, none⟩ = some (.int .i64 (N : Int)) := hcn
  refine callsIn_of_wp Tryd.func57 rfl h57 ?_ hro
  simp only [Tryd.ntmps57, List.size_toArray, List.length_cons, List.length_nil, Nat.reduceAdd, Nat.reduceSub, Array.replicate_succ, Array.replicate_zero, List.push_toArray, List.append_toArray, List.nil_append, List.cons_append]
  gi_wp2
  gi_region_o
  all_goals
    gi_wp2
    gi_loopw [4, 5] (fun x y wr => ∃ (pre : List (Side N)) (lo k : Nat), x = .int .i64 (lo : Int) ∧ y = .int .i64 ((lo + k : Nat) : Int) ∧ lo ≤ i ∧ i < lo + k ∧ lo + k ≤ N ∧ pre.map (·.1) ++ TM.wayL lo k i = TM.wayL 0 N i ∧ J pre wr ∧ KpW n₀ Bi W wr ∧ W.heap.size ≤ wr.heap.size) (fun x y _ => (intOf y).toNat - (intOf x).toNat)
    case atStart => exact ⟨[], 0, N, rfl, by simp, by omega, by omega, by omega, by simp, hJ _ _ _ h0 ⟨rfl, rfl, rfl, Nat.le_refl _, fun _ _ _ => rfl⟩, ⟨(Below.refl n₀ W).drew, rfl⟩, Nat.le_refl _⟩
    case round =>
      obtain ⟨pre, lo, k, rfl, rfl, h2, h3, h4, h5, h6, h7, h8⟩ := hrel
      have hki : wr.cell? ⟨Bi, 0, none⟩ = some (.int .i64 (i : Int)) := (World.cell?_of_block h7.2).trans hci
      by_cases hk : 1 < k
      · have hd : decide ((1 : Int) < (k : Int)) = true := by simp; omega
        have hp := TM.half_pos k; have hlt := TM.half_lt k hk
        have HRel := Lib.hid (And.intro h5 (And.intro h6 (And.intro h7 h8)))
        have HJ := Lib.hid hJ; have HY := Lib.hid hY
        clear HD hcn hci h0 hJ hY h5 h6 h7 h8
        by_cases hc : i < lo + TM.halfN k
        · have hka : (wr.alloc (.cells #[.bool true, .int .i64 ((lo : Int) + (TM.halfN k : Int)), .int .i64 ((lo : Int) + (k : Int))] 64)).cell? ⟨Bi, 0, none⟩ = some (.int .i64 (i : Int)) := cell_alloc_l' _ hki
          have hb0 : decide ((lo : Int) + (TM.halfN k : Int) ≤ (i : Int)) = false := by simp; omega
          gi_wp2_with (gi_at_call 58; refine (half_in2 F (m - 1) k (by omega) h58 hro _ _ (by first | omega | (simp; done) | (simp; omega))).mono ?_; rintro e w' ⟨rfl, rfl⟩)
          obtain ⟨h5, h6, h7, h8⟩ := HRel.out
          have e5 := TM.wayL_right hk hc
          have hlen : pre.length < (TM.wayL 0 N i).length := by rw [← h5, e5]; simp
          obtain ⟨fn, tmps, assign, body, hy, hR⟩ := HY.out pre ⟨(true, lo + TM.halfN k, lo + k), by simp; omega⟩ (w'.alloc (.cells #[.bool true, .int .i64 ((lo : Int) + (TM.halfN k : Int)), .int .i64 ((lo : Int) + (k : Int))] 64)) (HJ.out _ _ _ h6 (World.grownBy_alloc _ _ _)) hlen
          unfold encS sideV at hy
          simp only [Int.natCast_add] at hy
          have h7' : KpW n₀ Bi W (w'.alloc (.cells #[.bool true, .int .i64 ((lo : Int) + (TM.halfN k : Int)), .int .i64 ((lo : Int) + (k : Int))] 64)) := ⟨h7.1.alloc (by omega) _, (Below.heap_alloc _ _ _ (by omega)).trans h7.2⟩
          have h8' : W.heap.size ≤ (w'.alloc (.cells #[.bool true, .int .i64 ((lo : Int) + (TM.halfN k : Int)), .int .i64 ((lo : Int) + (k : Int))] 64)).heap.size := by simp; omega
          have HE := Lib.hid (And.intro h5 e5); have H7 := Lib.hid (And.intro h7' h8')
          clear h5 h6 h7 h8 e5 h7' h8' hka hki HRel
          rw [hy]
          clear hy
          gi_wp2
          refine hR.mono ?_
          rintro e W3 (⟨rfl, hJ3, hk3⟩ | ⟨rfl, hJx3⟩)
          · gi_wp2
            go_roundw
            case rel => 
              obtain ⟨h5, e5⟩ := HE.out
              obtain ⟨h7, h8⟩ := H7.out
              exact ⟨pre ++ [⟨(true, lo + TM.halfN k, lo + k), by simp; omega⟩], lo, TM.halfN k, by first | rfl | go_num, by first | rfl | go_num, by omega, by omega, by omega, by rw [← h5, e5]; simp, hJ3, ⟨h7.1.trans hk3.1, hk3.2.trans h7.2⟩, Nat.le_trans h8 hk3.1.size⟩
            case measure => simp [intOf]; omega
          · gi_wp2
            refine bodyPost_ret (results_none rfl _ _ _) rfl ?_
            exact ⟨⟨_, rfl⟩, .inr ⟨_, trivial, hJx3⟩⟩
        · have hka : (wr.alloc (.cells #[.bool true, .int .i64 ((lo : Int) + (TM.halfN k : Int)), .int .i64 ((lo : Int) + (k : Int))] 64)).cell? ⟨Bi, 0, none⟩ = some (.int .i64 (i : Int)) := cell_alloc_l' _ hki
          have hb0 : decide ((lo : Int) + (TM.halfN k : Int) ≤ (i : Int)) = true := by simp; omega
          gi_wp2_with (gi_at_call 58; refine (half_in2 F (m - 1) k (by omega) h58 hro _ _ (by first | omega | (simp; done) | (simp; omega))).mono ?_; rintro e w' ⟨rfl, rfl⟩)
          obtain ⟨h5, h6, h7, h8⟩ := HRel.out
          have e5 := TM.wayL_left hk hc
          have hlen : pre.length < (TM.wayL 0 N i).length := by rw [← h5, e5]; simp
          obtain ⟨fn, tmps, assign, body, hy, hR⟩ := HY.out pre ⟨(false, lo, lo + TM.halfN k), by simp; omega⟩ (w'.alloc (.cells #[.bool false, .int .i64 (lo : Int), .int .i64 ((lo : Int) + (TM.halfN k : Int))] 64)) (HJ.out _ _ _ h6 (World.grownBy_alloc _ _ _)) hlen
          unfold encS sideV at hy
          simp only [Int.natCast_add] at hy
          have h7' : KpW n₀ Bi W (w'.alloc (.cells #[.bool false, .int .i64 (lo : Int), .int .i64 ((lo : Int) + (TM.halfN k : Int))] 64)) := ⟨h7.1.alloc (by omega) _, (Below.heap_alloc _ _ _ (by omega)).trans h7.2⟩
          have h8' : W.heap.size ≤ (w'.alloc (.cells #[.bool false, .int .i64 (lo : Int), .int .i64 ((lo : Int) + (TM.halfN k : Int))] 64)).heap.size := by simp; omega
          have HE := Lib.hid (And.intro h5 e5); have H7 := Lib.hid (And.intro h7' h8')
          clear h5 h6 h7 h8 e5 h7' h8' hka hki HRel
          rw [hy]
          clear hy
          gi_wp2
          refine hR.mono ?_
          rintro e W3 (⟨rfl, hJ3, hk3⟩ | ⟨rfl, hJx3⟩)
          · gi_wp2
            go_roundw
            case rel => 
              obtain ⟨h5, e5⟩ := HE.out
              obtain ⟨h7, h8⟩ := H7.out
              exact ⟨pre ++ [⟨(false, lo, lo + TM.halfN k), by simp; omega⟩], (lo + TM.halfN k), (k - TM.halfN k), by first | rfl | go_num, by congr 1; omega, by omega, by omega, by omega, by rw [← h5, e5]; simp, hJ3, ⟨h7.1.trans hk3.1, hk3.2.trans h7.2⟩, Nat.le_trans h8 hk3.1.size⟩
            case measure => simp [intOf]; omega
          · gi_wp2
            refine bodyPost_ret (results_none rfl _ _ _) rfl ?_
            exact ⟨⟨_, rfl⟩, .inr ⟨_, trivial, hJx3⟩⟩
      · have hd : decide ((1 : Int) < (k : Int)) = false := by simp; omega
        gi_wp2
        go_end0
        refine ⟨⟨_, rfl⟩, .inl ⟨pre, ?_, h6⟩⟩
        rw [TM.wayL_nil hk, List.append_nil] at h5
        exact h5

theorem kpW_b {n₀ Bi : Nat} {w : World} (hn : n₀ ≤ w.heap.size) (hi : Bi < w.heap.size) (W : World) (l : Nat) (o o' : Obj) (hl : w.heap.size ≤ l) (h : W.heap[l]? = some o) (h1 : o.isCells = false) (h2 : o.isWalk = false) : KpW n₀ Bi W (W.putObj l o') :=
  ⟨belowK_b hn W l o o' hl h h1 h2, World.putObj_heap_other (by omega)⟩
/-- The iterator's contract. -/
theorem way_stops (F : Fence) (m : Nat) (h57 : F.fn 57) (h58 : F.fn 58) (hro : F.round = none) (hm : 2 ≤ m) (N : Nat) (hN : N ≤ 2305843009213693952) (i : Nat) (hi : i < N) (Bn Bi n₀ : Nat) (w : World) (hn₀ : n₀ ≤ w.heap.size) (hBn : Bn < w.heap.size) (hBi : Bi < w.heap.size)
    (hcn : w.cell? ⟨Bn, 0, none⟩ = some (.int .i64 (N : Int))) (hci : w.cell? ⟨Bi, 0, none⟩ = some (.int .i64 (i : Int))) :
    SeqStopsK F m Tryd.prog 57 #[.pointer (some ⟨Bn, 0, none⟩), .pointer (some ⟨Bi, 0, none⟩)] (encS N) (KpW n₀ Bi) (fun ys => ys.map (·.1) = TM.wayL 0 N i) (fun _ => True) (TM.wayL 0 N i).length w := fun l J Jx W hW hJ hJx hY h0 =>
  way1_in F m h57 h58 hro hm N hN i hi l Bn Bi n₀ J Jx (fun s A B h hg => hJ s A B none h hg (fun r e => by cases e)) hY W (Nat.le_trans hn₀ hW.size) (Nat.lt_of_lt_of_le hBi hW.size)
    ((hW.cell (p := ⟨Bn, 0, none⟩) hBn).trans hcn) ((hW.cell (p := ⟨Bi, 0, none⟩) hBi).trans hci) h0
end Go.Proofs.YtlcmpmodfkmfnaaDoor
