/- redact.inputs' iterator, over keys and over values. -/
import Derived.Test.YtbckobokiioeaaaDoorTwKeys
set_option linter.unusedVariables false
set_option linter.unusedSimpArgs false
namespace Go.Proofs.YtbckobokiioeaaaDoor
open Go.RowKit Go.Proofs.YtbckobokiioeaaaDoor.Q Go.Proofs.YtbckobokiioeaaaDoorW.PrintWords
attribute [local go_sem] Oper.semAt_some

theorem cell_alloc_l' {w : World} {a : Addr} {v : Value} (o : Obj) (h : w.cell? a = some v) : (w.alloc o).cell? a = some v := by
  have hb : a.block < w.heap.size := by
    refine Decidable.byContradiction fun hn => ?_
    have : w.heap[a.block]? = none := Array.getElem?_eq_none_iff.2 (by omega)
    simp [World.cell?, this] at h
  exact (World.cell?_of_block (Below.heap_alloc w o a.block hb)).trans h
/-- What comes: a text that is not too long. -/
abbrev SmS := { s : ByteArray // 1 < s.size ∧ s.size ≤ 140737488351233 }
/-- What a round keeps: what lay below n₀, and the box of the function. -/
def KpW (n₀ Bi : Nat) (A B : World) : Prop := Below n₀ A B ∧ B.heap[Bi]? = A.heap[Bi]?
theorem kpW_t {n₀ Bi : Nat} {A B C : World} (h : KpW n₀ Bi A B) (k : KpW n₀ Bi B C) : KpW n₀ Bi A C := ⟨h.1.trans k.1, k.2.trans h.2⟩
theorem kpW_g {n₀ Bi : Nat} {A B : World} (hn : n₀ ≤ A.heap.size) (hb : Bi < A.heap.size) (h : A.grownBy B none) : KpW n₀ Bi A B :=
  ⟨⟨h.os, h.tape, h.output, h.size, fun k hk => h.block k (by omega) (by simp)⟩, h.block Bi hb (by simp)⟩
theorem inputsK_next (h : List Evt) (k : Nat) (hk : k < h.length) (x : Evt) (hx : h[k]? = some x) : inputsK (h.take (k + 1)) = inputsK (h.take k) ++ (if keyedE x.f0 ∧ 1 < ((⟨#[5]⟩ : ByteArray) ++ x.f2).size then [(⟨#[5]⟩ : ByteArray) ++ x.f2] else []) := by
  unfold inputsK
  rw [List.take_add_one, hx, Option.toList_some, List.filter_append, List.map_append, List.filter_append]
  congr 1
  by_cases a : keyedE x.f0
  · rw [List.filter_cons_of_pos (by simpa using a), List.filter_nil, List.map_singleton]
    by_cases b : 1 < ((⟨#[5]⟩ : ByteArray) ++ x.f2).size
    · rw [List.filter_cons_of_pos (by simpa using b), List.filter_nil, if_pos ⟨a, b⟩]
    · rw [List.filter_cons_of_neg (by simpa using b), List.filter_nil, if_neg (fun z => b z.2)]
  · rw [List.filter_cons_of_neg (by simpa using a), List.filter_nil, List.map_nil, List.filter_nil, if_neg (fun z => a z.1)]
theorem inputsK_app (a b : List Evt) : inputsK (a ++ b) = inputsK a ++ inputsK b := by
  unfold inputsK
  rw [List.filter_append, List.map_append, List.filter_append]
theorem inputsK_pre (h : List Evt) (k : Nat) : inputsK (h.take k) <+: inputsK h := by
  refine ⟨inputsK (h.drop k), ?_⟩
  rw [← inputsK_app, List.take_append_drop]
theorem inputsK_le (h : List Evt) (k : Nat) : (inputsK (h.take k)).length ≤ (inputsK h).length := by
  have e := inputsK_app (h.take k) (h.drop k)
  rw [List.take_append_drop] at e
  rw [e, List.length_append]
  omega
set_option maxHeartbeats 1000000 in
theorem keyed_in (F : Fence) (m : Nat) (hf : F.fn 33) (hro : F.round = none) (x : Evt) (w : World) : CallsIn F m Tryd.prog 33 #[.agg #[.int .i64 x.f0, .int .i64 x.f1, .string x.f2, .string x.f3]] w fun e w' => e = .returned (.bool (decide (keyedE x.f0))) ∧ w.grownBy w' none := by
  have HB := Lib.hid (World.grownBy_alloc w (.cells #[.int .i64 x.f0, .int .i64 x.f1, .string x.f2, .string x.f3] 26) none)
  obtain ⟨hc0, hc1, hc2, hc3⟩ := box4 w x 26
  obtain ⟨r, hr⟩ : ∃ r, r = decide (keyedE x.f0) := ⟨_, rfl⟩
  rw [← hr]
  have HR := Lib.hid hr
  clear hr
  by_cases h2 : x.f0 = 2
  · have d1 : (x.f0 == 2) = true := by simpa using h2
    have H2 := Lib.hid h2
    clear h2
    refine callsIn_of_wp Tryd.func33 rfl hf ?_ hro
    simp only [Tryd.ntmps33, List.size_toArray, List.length_cons, List.length_nil, Nat.reduceAdd, Nat.reduceSub, Array.replicate_succ, Array.replicate_zero, List.push_toArray, List.append_toArray, List.nil_append, List.cons_append]
    gi_wp2
    go_ret
    refine ⟨?_, HB.out⟩
    rw [HR.out, decide_eq_true (show keyedE x.f0 from .inl H2.out)]
    first | rfl | simp
  · have d1 : (x.f0 == 2) = false := by simpa using h2
    have H2 := Lib.hid h2
    clear h2
    refine callsIn_of_wp Tryd.func33 rfl hf ?_ hro
    simp only [Tryd.ntmps33, List.size_toArray, List.length_cons, List.length_nil, Nat.reduceAdd, Nat.reduceSub, Array.replicate_succ, Array.replicate_zero, List.push_toArray, List.append_toArray, List.nil_append, List.cons_append]
    gi_wp2
    go_ret
    refine ⟨?_, HB.out⟩
    rw [HR.out, show decide (keyedE x.f0) = (x.f0 == 3) from decide_eq_decide.2 (show keyedE x.f0 ↔ x.f0 = 3 from ⟨fun z => z.resolve_left H2.out, .inr⟩)]
    rfl
set_option maxHeartbeats 2000000 in
set_option maxRecDepth 100000 in
theorem inputs1K_in (F : Fence) (m : Nat) (h48 : F.fn 48) (h33 : F.fn 33) (h37 : F.fn 37) (h29 : F.fn 29) (hro : F.round = none) (hm : 2 ≤ m) (h : List Evt) (hl : h.length ≤ 60) (hs : SmallE h) (A0 : Option Addr) (c0 : Nat) (l Bh Bf n₀ : Nat) (J Jx : List SmS → World → Prop)
    (hJ : ∀ s (W W' : World), J s W → W.grownBy W' none → J s W')
    (hY : ∀ pre x W, J pre W → pre.length < (inputsK h).length → YieldAt F (m - 1) Tryd.prog l #[.string x.1] W fun e W' =>
      (e = .returned (.bool true) ∧ J (pre ++ [x]) W' ∧ KpW n₀ Bf W W') ∨ (e = .returned (.bool false) ∧ Jx (pre ++ [x]) W'))
    (W : World) (hn₀ : n₀ ≤ W.heap.size) (hBf : Bf < W.heap.size) (hch : W.cell? ⟨Bh, 0, none⟩ = some (.slice A0 h.length c0)) (hcf : W.cell? ⟨Bf, 0, none⟩ = some (.func (.func 37) #[] #[])) (hr : ∀ W', Below n₀ W W' → Kd.C k26 W' A0 h.length h) (h0 : J [] W) :
    CallsIn F m Tryd.prog 48 #[.func (.yield l) #[] #[], .pointer (some ⟨Bh, 0, none⟩), .pointer (some ⟨Bf, 0, none⟩)] W fun e W' => (∃ v, e = .returned v) ∧
      ((∃ ys : List SmS, ys.map (·.1) = inputsK h ∧ J ys W') ∨ (∃ pre : List SmS, pre.map (·.1) <+: inputsK h ∧ Jx pre W')) := by
  have h1 : 1 ≤ m := by omega
  have HR := Lib.hid hr; have HS := Lib.hid hs; have HJ := Lib.hid hJ; have HY := Lib.hid hY; have H0 := Lib.hid h0
  clear hr hs hJ hY h0
  refine callsIn_of_wp Tryd.func48 rfl h48 ?_ hro
  simp only [Tryd.ntmps48, List.size_toArray, List.length_cons, List.length_nil, Nat.reduceAdd, Nat.reduceSub, Array.replicate_succ, Array.replicate_zero, List.push_toArray, List.append_toArray, List.nil_append, List.cons_append]
  gi_wp2
  gi_loopw [9] (fun y wr => ∃ (k : Nat) (pre : List SmS), y = .int .i64 (k : Int) ∧ k ≤ h.length ∧ (pre.map (·.1) = inputsK (h.take k) ∧ J pre wr) ∧ KpW n₀ Bf W wr ∧ W.heap.size ≤ wr.heap.size) (fun y _ => h.length + 1 - (intOf y).toNat)
  case atStart => exact ⟨0, [], rfl, by omega, ⟨rfl, H0.out⟩, ⟨Below.refl n₀ W, rfl⟩, Nat.le_refl _⟩
  case round =>
    obtain ⟨k, pre, rfl, hk, ⟨hpe, hj⟩, h7, h8⟩ := hrel
    have HPE := Lib.hid hpe
    clear hpe
    have hcf' : wr.cell? ⟨Bf, 0, none⟩ = some (.func (.func 37) #[] #[]) := (World.cell?_of_block h7.2).trans hcf
    by_cases hlt : k < h.length
    · have hlt1 : decide ((k : Int) < (h.length : Int)) = true := by simp; omega
      have hlt2 : decide (k < h.length) = true := by simp; omega
      obtain ⟨ad, hA, hx0, hx1, hx2, hx3⟩ := at_T26 (HR.out wr h7.1) (k : Int) (by omega) (by omega)
      rw [Int.toNat_natCast] at hx0 hx1 hx2 hx3
      have hX := rd_get hlt
      obtain ⟨x, hxe⟩ : ∃ x, x = rd_T26 h (k : Int) := ⟨_, rfl⟩
      rw [← hxe] at hx0 hx1 hx2 hx3 hX
      have HXX := Lib.hid hX
      subst hA
      obtain ⟨hc0, hc1, hc2, hc3⟩ := box4 wr x 26
      clear hX hxe hch hcf
      have HKJ := Lib.hid (And.intro hj (And.intro h7 h8))
      clear hj h7 h8
      have hnext := inputsK_next h k hlt x HXX.out
      have hsx := HS.out x (List.mem_of_getElem? HXX.out)
      by_cases hke : keyedE x.f0
      · have hd : decide (keyedE x.f0) = true := decide_eq_true hke
        obtain ⟨s, hse⟩ : ∃ s, s = (⟨#[5]⟩ : ByteArray) ++ x.f2 := ⟨_, rfl⟩
        have hKI := Lib.hid (fun w => key_in F (m - 1) h29 hro x hsx.1 w)
        rw [← hse] at hnext hKI
        have HN := Lib.hid hnext
        have HKE := Lib.hid hke
        have hsz : s.size ≤ 140737488351233 := by rw [hse, ByteArray.size_append, one_size]; omega
        clear hnext hse hke hsx
        by_cases hz : 1 < s.size
        · have hz1 : decide ((1 : Int) < (s.size : Int)) = true := by simp; omega
          have hz2 : decide (1 < s.size) = true := by simp; omega
          gi_wp2_with (first
            | (gi_at_call 33; refine (keyed_in F (m - 1) h33 hro x _).mono ?_; rintro e w2 ⟨rfl, hg2⟩; have b0 := hg2.cell hc0 (by simp); have b1 := hg2.cell hc1 (by simp); have b2 := hg2.cell hc2 (by simp); have b3 := hg2.cell hc3 (by simp); have bf := hg2.cell (cell_alloc_l' _ hcf') (by simp); have HG2 := Lib.hid hg2; clear hg2)
            | (gi_at_call 37; refine (tw1_in F (m - 1) h37 hro x _).mono ?_; rintro e w3 ⟨rfl, hg3⟩; have HG3 := Lib.hid hg3; clear hg3)
            | (gi_at_call 29; refine (hKI.out _).mono ?_; rintro e w4 ⟨rfl, hg4⟩; have HG4 := Lib.hid hg4; clear hg4))
          obtain ⟨hj, h7, h8⟩ := HKJ.out
          have hga := World.grownBy_alloc wr (.cells #[.int .i64 x.f0, .int .i64 x.f1, .string x.f2, .string x.f3] 26) none
          have hj4 := HJ.out _ _ _ (HJ.out _ _ _ (HJ.out _ _ _ (HJ.out _ _ _ hj hga) HG2.out) HG3.out) HG4.out
          have z1 := hga.size; have z2 := HG2.out.size; have z3 := HG3.out.size; have z4 := HG4.out.size
          have h74 := kpW_t (kpW_t (kpW_t (kpW_t h7 (kpW_g (by omega) (by omega) hga)) (kpW_g (by omega) (by omega) HG2.out)) (kpW_g (by omega) (by omega) HG3.out)) (kpW_g (by omega) (by omega) HG4.out)
          have h84 : W.heap.size ≤ w4.heap.size := by omega
          have HE := Lib.hid (And.intro hj4 (And.intro h74 h84))
          have hn : inputsK (h.take (k + 1)) = inputsK (h.take k) ++ [s] := by rw [HN.out, if_pos ⟨HKE.out, hz⟩]
          have eqp : (pre ++ [(⟨s, hz, hsz⟩ : SmS)]).map (·.1) = inputsK (h.take (k + 1)) := by rw [hn, List.map_append, HPE.out]; rfl
          have EQP := Lib.hid eqp
          clear eqp
          have hlen : pre.length < (inputsK h).length := by
            have hpl := congrArg List.length HPE.out
            rw [List.length_map] at hpl
            rw [hpl]
            have := inputsK_le h (k + 1)
            rw [hn, List.length_append, List.length_singleton] at this
            omega
          obtain ⟨fn, tmps, assign, body, hy, hR⟩ := HY.out pre ⟨s, hz, hsz⟩ w4 hj4 hlen
          dsimp only at hy
          have HNN := Lib.hid hn
          clear hj h7 h8 hga hj4 h74 h84 hn hlen z1 z2 z3 z4 b0 b1 b2 b3 bf hc0 hc1 hc2 hc3
          rw [hy]
          clear hy
          gi_wp2
          refine hR.mono ?_
          rintro e W3 (⟨rfl, hJ3, hk3⟩ | ⟨rfl, hJx3⟩)
          · gi_wp2
            go_roundw
            case rel =>
              obtain ⟨hj4, h74, h84⟩ := HE.out
              exact ⟨k + 1, _, by go_num, by omega, ⟨EQP.out, hJ3⟩, kpW_t h74 hk3, Nat.le_trans h84 hk3.1.size⟩
            case measure => simp [intOf]; omega
          · gi_wp2
            refine bodyPost_ret (results_none rfl _ _ _) rfl ?_
            exact ⟨⟨_, rfl⟩, .inr ⟨_, (by rw [EQP.out]; exact inputsK_pre h (k + 1)), hJx3⟩⟩
        · have hz1 : decide ((1 : Int) < (s.size : Int)) = false := by simp; omega
          have hz2 : decide (1 < s.size) = false := by simp; omega
          gi_wp2_with (first
            | (gi_at_call 33; refine (keyed_in F (m - 1) h33 hro x _).mono ?_; rintro e w2 ⟨rfl, hg2⟩; have b0 := hg2.cell hc0 (by simp); have b1 := hg2.cell hc1 (by simp); have b2 := hg2.cell hc2 (by simp); have b3 := hg2.cell hc3 (by simp); have bf := hg2.cell (cell_alloc_l' _ hcf') (by simp); have HG2 := Lib.hid hg2; clear hg2)
            | (gi_at_call 37; refine (tw1_in F (m - 1) h37 hro x _).mono ?_; rintro e w3 ⟨rfl, hg3⟩; have HG3 := Lib.hid hg3; clear hg3)
            | (gi_at_call 29; refine (hKI.out _).mono ?_; rintro e w4 ⟨rfl, hg4⟩; have HG4 := Lib.hid hg4; clear hg4))
          obtain ⟨hj, h7, h8⟩ := HKJ.out
          have hga := World.grownBy_alloc wr (.cells #[.int .i64 x.f0, .int .i64 x.f1, .string x.f2, .string x.f3] 26) none
          have hj4 := HJ.out _ _ _ (HJ.out _ _ _ (HJ.out _ _ _ (HJ.out _ _ _ hj hga) HG2.out) HG3.out) HG4.out
          have z1 := hga.size; have z2 := HG2.out.size; have z3 := HG3.out.size; have z4 := HG4.out.size
          have h74 := kpW_t (kpW_t (kpW_t (kpW_t h7 (kpW_g (by omega) (by omega) hga)) (kpW_g (by omega) (by omega) HG2.out)) (kpW_g (by omega) (by omega) HG3.out)) (kpW_g (by omega) (by omega) HG4.out)
          have h84 : W.heap.size ≤ w4.heap.size := by omega
          have HE := Lib.hid (And.intro hj4 (And.intro h74 h84))
          have hn : inputsK (h.take (k + 1)) = inputsK (h.take k) := by rw [HN.out, if_neg (fun z => hz z.2), List.append_nil]
          have HNN := Lib.hid hn
          refine ⟨fun f e => (by cases e), ?_⟩
          gi_wp2
          go_roundw
          case rel =>
            obtain ⟨hj4, h74, h84⟩ := HE.out
            exact ⟨k + 1, pre, by go_num, by omega, ⟨by rw [HNN.out]; exact HPE.out, hj4⟩, h74, h84⟩
          case measure => simp [intOf]; omega
      · have hd : decide (keyedE x.f0) = false := decide_eq_false hke
        rw [if_neg (fun z => hke z.1), List.append_nil] at hnext
        have HN := Lib.hid hnext
        clear hnext hke hsx
        gi_wp2_with (gi_at_call 33; refine (keyed_in F (m - 1) h33 hro x _).mono ?_; rintro e w2 ⟨rfl, hg2⟩; have HG2 := Lib.hid hg2; clear hg2)
        go_roundw
        case rel =>
          obtain ⟨hj, h7, h8⟩ := HKJ.out
          have hg := HG2.out
          have hga := World.grownBy_alloc wr (.cells #[.int .i64 x.f0, .int .i64 x.f1, .string x.f2, .string x.f3] 26) none
          refine ⟨k + 1, pre, by go_num, by omega, ⟨by rw [HN.out]; exact HPE.out, ?_⟩, ?_, ?_⟩
          · exact HJ.out _ _ _ (HJ.out _ _ _ hj hga) hg
          · exact kpW_t (kpW_t h7 (kpW_g (by omega) (by omega) hga)) (kpW_g (by have := hga.size; omega) (by have := hga.size; omega) hg)
          · exact Nat.le_trans h8 (Nat.le_trans hga.size hg.size)
        case measure => simp [intOf]; omega
    · obtain rfl : k = h.length := by omega
      have hlt1 : decide ((h.length : Int) < (h.length : Int)) = false := by simp
      have hlt2 : decide (h.length < h.length) = false := by simp
      gi_wp2
      go_end0
      have hpe := HPE.out
      rw [List.take_length] at hpe
      exact ⟨⟨_, rfl⟩, .inl ⟨pre, hpe, hj⟩⟩
theorem inputsV_next (h : List Evt) (k : Nat) (hk : k < h.length) (x : Evt) (hx : h[k]? = some x) : inputsV (h.take (k + 1)) = inputsV (h.take k) ++ (if keyedE x.f0 ∧ 1 < ((⟨#[6]⟩ : ByteArray) ++ x.f3).size then [(⟨#[6]⟩ : ByteArray) ++ x.f3] else []) := by
  unfold inputsV
  rw [List.take_add_one, hx, Option.toList_some, List.filter_append, List.map_append, List.filter_append]
  congr 1
  by_cases a : keyedE x.f0
  · rw [List.filter_cons_of_pos (by simpa using a), List.filter_nil, List.map_singleton]
    by_cases b : 1 < ((⟨#[6]⟩ : ByteArray) ++ x.f3).size
    · rw [List.filter_cons_of_pos (by simpa using b), List.filter_nil, if_pos ⟨a, b⟩]
    · rw [List.filter_cons_of_neg (by simpa using b), List.filter_nil, if_neg (fun z => b z.2)]
  · rw [List.filter_cons_of_neg (by simpa using a), List.filter_nil, List.map_nil, List.filter_nil, if_neg (fun z => a z.1)]
theorem inputsV_app (a b : List Evt) : inputsV (a ++ b) = inputsV a ++ inputsV b := by
  unfold inputsV
  rw [List.filter_append, List.map_append, List.filter_append]
theorem inputsV_pre (h : List Evt) (k : Nat) : inputsV (h.take k) <+: inputsV h := by
  refine ⟨inputsV (h.drop k), ?_⟩
  rw [← inputsV_app, List.take_append_drop]
theorem inputsV_le (h : List Evt) (k : Nat) : (inputsV (h.take k)).length ≤ (inputsV h).length := by
  have e := inputsV_app (h.take k) (h.drop k)
  rw [List.take_append_drop] at e
  rw [e, List.length_append]
  omega
set_option maxHeartbeats 2000000 in
set_option maxRecDepth 100000 in
theorem inputs1V_in (F : Fence) (m : Nat) (h48 : F.fn 48) (h33 : F.fn 33) (h37 : F.fn 38) (h29 : F.fn 31) (hro : F.round = none) (hm : 2 ≤ m) (h : List Evt) (hl : h.length ≤ 60) (hs : SmallE h) (A0 : Option Addr) (c0 : Nat) (l Bh Bf n₀ : Nat) (J Jx : List SmS → World → Prop)
    (hJ : ∀ s (W W' : World), J s W → W.grownBy W' none → J s W')
    (hY : ∀ pre x W, J pre W → pre.length < (inputsV h).length → YieldAt F (m - 1) Tryd.prog l #[.string x.1] W fun e W' =>
      (e = .returned (.bool true) ∧ J (pre ++ [x]) W' ∧ KpW n₀ Bf W W') ∨ (e = .returned (.bool false) ∧ Jx (pre ++ [x]) W'))
    (W : World) (hn₀ : n₀ ≤ W.heap.size) (hBf : Bf < W.heap.size) (hch : W.cell? ⟨Bh, 0, none⟩ = some (.slice A0 h.length c0)) (hcf : W.cell? ⟨Bf, 0, none⟩ = some (.func (.func 38) #[] #[])) (hr : ∀ W', Below n₀ W W' → Kd.C k26 W' A0 h.length h) (h0 : J [] W) :
    CallsIn F m Tryd.prog 48 #[.func (.yield l) #[] #[], .pointer (some ⟨Bh, 0, none⟩), .pointer (some ⟨Bf, 0, none⟩)] W fun e W' => (∃ v, e = .returned v) ∧
      ((∃ ys : List SmS, ys.map (·.1) = inputsV h ∧ J ys W') ∨ (∃ pre : List SmS, pre.map (·.1) <+: inputsV h ∧ Jx pre W')) := by
  have h1 : 1 ≤ m := by omega
  have HR := Lib.hid hr; have HS := Lib.hid hs; have HJ := Lib.hid hJ; have HY := Lib.hid hY; have H0 := Lib.hid h0
  clear hr hs hJ hY h0
  refine callsIn_of_wp Tryd.func48 rfl h48 ?_ hro
  simp only [Tryd.ntmps48, List.size_toArray, List.length_cons, List.length_nil, Nat.reduceAdd, Nat.reduceSub, Array.replicate_succ, Array.replicate_zero, List.push_toArray, List.append_toArray, List.nil_append, List.cons_append]
  gi_wp2
  gi_loopw [9] (fun y wr => ∃ (k : Nat) (pre : List SmS), y = .int .i64 (k : Int) ∧ k ≤ h.length ∧ (pre.map (·.1) = inputsV (h.take k) ∧ J pre wr) ∧ KpW n₀ Bf W wr ∧ W.heap.size ≤ wr.heap.size) (fun y _ => h.length + 1 - (intOf y).toNat)
  case atStart => exact ⟨0, [], rfl, by omega, ⟨rfl, H0.out⟩, ⟨Below.refl n₀ W, rfl⟩, Nat.le_refl _⟩
  case round =>
    obtain ⟨k, pre, rfl, hk, ⟨hpe, hj⟩, h7, h8⟩ := hrel
    have HPE := Lib.hid hpe
    clear hpe
    have hcf' : wr.cell? ⟨Bf, 0, none⟩ = some (.func (.func 38) #[] #[]) := (World.cell?_of_block h7.2).trans hcf
    by_cases hlt : k < h.length
    · have hlt1 : decide ((k : Int) < (h.length : Int)) = true := by simp; omega
      have hlt2 : decide (k < h.length) = true := by simp; omega
      obtain ⟨ad, hA, hx0, hx1, hx2, hx3⟩ := at_T26 (HR.out wr h7.1) (k : Int) (by omega) (by omega)
      rw [Int.toNat_natCast] at hx0 hx1 hx2 hx3
      have hX := rd_get hlt
      obtain ⟨x, hxe⟩ : ∃ x, x = rd_T26 h (k : Int) := ⟨_, rfl⟩
      rw [← hxe] at hx0 hx1 hx2 hx3 hX
      have HXX := Lib.hid hX
      subst hA
      obtain ⟨hc0, hc1, hc2, hc3⟩ := box4 wr x 26
      clear hX hxe hch hcf
      have HKJ := Lib.hid (And.intro hj (And.intro h7 h8))
      clear hj h7 h8
      have hnext := inputsV_next h k hlt x HXX.out
      have hsx := HS.out x (List.mem_of_getElem? HXX.out)
      by_cases hke : keyedE x.f0
      · have hd : decide (keyedE x.f0) = true := decide_eq_true hke
        obtain ⟨s, hse⟩ : ∃ s, s = (⟨#[6]⟩ : ByteArray) ++ x.f3 := ⟨_, rfl⟩
        have hKI := Lib.hid (fun w => val_in F (m - 1) h29 hro x hsx.2 w)
        rw [← hse] at hnext hKI
        have HN := Lib.hid hnext
        have HKE := Lib.hid hke
        have hsz : s.size ≤ 140737488351233 := by rw [hse, ByteArray.size_append, one_size]; omega
        clear hnext hse hke hsx
        by_cases hz : 1 < s.size
        · have hz1 : decide ((1 : Int) < (s.size : Int)) = true := by simp; omega
          have hz2 : decide (1 < s.size) = true := by simp; omega
          gi_wp2_with (first
            | (gi_at_call 33; refine (keyed_in F (m - 1) h33 hro x _).mono ?_; rintro e w2 ⟨rfl, hg2⟩; have b0 := hg2.cell hc0 (by simp); have b1 := hg2.cell hc1 (by simp); have b2 := hg2.cell hc2 (by simp); have b3 := hg2.cell hc3 (by simp); have bf := hg2.cell (cell_alloc_l' _ hcf') (by simp); have HG2 := Lib.hid hg2; clear hg2)
            | (gi_at_call 38; refine (tw2_in F (m - 1) h37 hro x _).mono ?_; rintro e w3 ⟨rfl, hg3⟩; have HG3 := Lib.hid hg3; clear hg3)
            | (gi_at_call 31; refine (hKI.out _).mono ?_; rintro e w4 ⟨rfl, hg4⟩; have HG4 := Lib.hid hg4; clear hg4))
          obtain ⟨hj, h7, h8⟩ := HKJ.out
          have hga := World.grownBy_alloc wr (.cells #[.int .i64 x.f0, .int .i64 x.f1, .string x.f2, .string x.f3] 26) none
          have hj4 := HJ.out _ _ _ (HJ.out _ _ _ (HJ.out _ _ _ (HJ.out _ _ _ hj hga) HG2.out) HG3.out) HG4.out
          have z1 := hga.size; have z2 := HG2.out.size; have z3 := HG3.out.size; have z4 := HG4.out.size
          have h74 := kpW_t (kpW_t (kpW_t (kpW_t h7 (kpW_g (by omega) (by omega) hga)) (kpW_g (by omega) (by omega) HG2.out)) (kpW_g (by omega) (by omega) HG3.out)) (kpW_g (by omega) (by omega) HG4.out)
          have h84 : W.heap.size ≤ w4.heap.size := by omega
          have HE := Lib.hid (And.intro hj4 (And.intro h74 h84))
          have hn : inputsV (h.take (k + 1)) = inputsV (h.take k) ++ [s] := by rw [HN.out, if_pos ⟨HKE.out, hz⟩]
          have eqp : (pre ++ [(⟨s, hz, hsz⟩ : SmS)]).map (·.1) = inputsV (h.take (k + 1)) := by rw [hn, List.map_append, HPE.out]; rfl
          have EQP := Lib.hid eqp
          clear eqp
          have hlen : pre.length < (inputsV h).length := by
            have hpl := congrArg List.length HPE.out
            rw [List.length_map] at hpl
            rw [hpl]
            have := inputsV_le h (k + 1)
            rw [hn, List.length_append, List.length_singleton] at this
            omega
          obtain ⟨fn, tmps, assign, body, hy, hR⟩ := HY.out pre ⟨s, hz, hsz⟩ w4 hj4 hlen
          dsimp only at hy
          have HNN := Lib.hid hn
          clear hj h7 h8 hga hj4 h74 h84 hn hlen z1 z2 z3 z4 b0 b1 b2 b3 bf hc0 hc1 hc2 hc3
          rw [hy]
          clear hy
          gi_wp2
          refine hR.mono ?_
          rintro e W3 (⟨rfl, hJ3, hk3⟩ | ⟨rfl, hJx3⟩)
          · gi_wp2
            go_roundw
            case rel =>
              obtain ⟨hj4, h74, h84⟩ := HE.out
              exact ⟨k + 1, _, by go_num, by omega, ⟨EQP.out, hJ3⟩, kpW_t h74 hk3, Nat.le_trans h84 hk3.1.size⟩
            case measure => simp [intOf]; omega
          · gi_wp2
            refine bodyPost_ret (results_none rfl _ _ _) rfl ?_
            exact ⟨⟨_, rfl⟩, .inr ⟨_, (by rw [EQP.out]; exact inputsV_pre h (k + 1)), hJx3⟩⟩
        · have hz1 : decide ((1 : Int) < (s.size : Int)) = false := by simp; omega
          have hz2 : decide (1 < s.size) = false := by simp; omega
          gi_wp2_with (first
            | (gi_at_call 33; refine (keyed_in F (m - 1) h33 hro x _).mono ?_; rintro e w2 ⟨rfl, hg2⟩; have b0 := hg2.cell hc0 (by simp); have b1 := hg2.cell hc1 (by simp); have b2 := hg2.cell hc2 (by simp); have b3 := hg2.cell hc3 (by simp); have bf := hg2.cell (cell_alloc_l' _ hcf') (by simp); have HG2 := Lib.hid hg2; clear hg2)
            | (gi_at_call 38; refine (tw2_in F (m - 1) h37 hro x _).mono ?_; rintro e w3 ⟨rfl, hg3⟩; have HG3 := Lib.hid hg3; clear hg3)
            | (gi_at_call 31; refine (hKI.out _).mono ?_; rintro e w4 ⟨rfl, hg4⟩; have HG4 := Lib.hid hg4; clear hg4))
          obtain ⟨hj, h7, h8⟩ := HKJ.out
          have hga := World.grownBy_alloc wr (.cells #[.int .i64 x.f0, .int .i64 x.f1, .string x.f2, .string x.f3] 26) none
          have hj4 := HJ.out _ _ _ (HJ.out _ _ _ (HJ.out _ _ _ (HJ.out _ _ _ hj hga) HG2.out) HG3.out) HG4.out
          have z1 := hga.size; have z2 := HG2.out.size; have z3 := HG3.out.size; have z4 := HG4.out.size
          have h74 := kpW_t (kpW_t (kpW_t (kpW_t h7 (kpW_g (by omega) (by omega) hga)) (kpW_g (by omega) (by omega) HG2.out)) (kpW_g (by omega) (by omega) HG3.out)) (kpW_g (by omega) (by omega) HG4.out)
          have h84 : W.heap.size ≤ w4.heap.size := by omega
          have HE := Lib.hid (And.intro hj4 (And.intro h74 h84))
          have hn : inputsV (h.take (k + 1)) = inputsV (h.take k) := by rw [HN.out, if_neg (fun z => hz z.2), List.append_nil]
          have HNN := Lib.hid hn
          refine ⟨fun f e => (by cases e), ?_⟩
          gi_wp2
          go_roundw
          case rel =>
            obtain ⟨hj4, h74, h84⟩ := HE.out
            exact ⟨k + 1, pre, by go_num, by omega, ⟨by rw [HNN.out]; exact HPE.out, hj4⟩, h74, h84⟩
          case measure => simp [intOf]; omega
      · have hd : decide (keyedE x.f0) = false := decide_eq_false hke
        rw [if_neg (fun z => hke z.1), List.append_nil] at hnext
        have HN := Lib.hid hnext
        clear hnext hke hsx
        gi_wp2_with (gi_at_call 33; refine (keyed_in F (m - 1) h33 hro x _).mono ?_; rintro e w2 ⟨rfl, hg2⟩; have HG2 := Lib.hid hg2; clear hg2)
        go_roundw
        case rel =>
          obtain ⟨hj, h7, h8⟩ := HKJ.out
          have hg := HG2.out
          have hga := World.grownBy_alloc wr (.cells #[.int .i64 x.f0, .int .i64 x.f1, .string x.f2, .string x.f3] 26) none
          refine ⟨k + 1, pre, by go_num, by omega, ⟨by rw [HN.out]; exact HPE.out, ?_⟩, ?_, ?_⟩
          · exact HJ.out _ _ _ (HJ.out _ _ _ hj hga) hg
          · exact kpW_t (kpW_t h7 (kpW_g (by omega) (by omega) hga)) (kpW_g (by have := hga.size; omega) (by have := hga.size; omega) hg)
          · exact Nat.le_trans h8 (Nat.le_trans hga.size hg.size)
        case measure => simp [intOf]; omega
    · obtain rfl : k = h.length := by omega
      have hlt1 : decide ((h.length : Int) < (h.length : Int)) = false := by simp
      have hlt2 : decide (h.length < h.length) = false := by simp
      gi_wp2
      go_end0
      have hpe := HPE.out
      rw [List.take_length] at hpe
      exact ⟨⟨_, rfl⟩, .inl ⟨pre, hpe, hj⟩⟩
/-- The iterator's contract. -/
theorem inputsK_stops (F : Fence) (m : Nat) (h48 : F.fn 48) (h33 : F.fn 33) (h37 : F.fn 37) (h29 : F.fn 29) (hro : F.round = none) (hm : 2 ≤ m) (h : List Evt) (hl : h.length ≤ 60) (hs : SmallE h) (A0 : Option Addr) (c0 : Nat) (Bh Bf n₀ : Nat) (w : World) (hn₀ : n₀ ≤ w.heap.size) (hBh : Bh < w.heap.size) (hBf : Bf < w.heap.size)
    (hch : w.cell? ⟨Bh, 0, none⟩ = some (.slice A0 h.length c0)) (hcf : w.cell? ⟨Bf, 0, none⟩ = some (.func (.func 37) #[] #[])) (hr : ∀ W', Below n₀ w W' → Kd.C k26 W' A0 h.length h) :
    SeqStopsK F m Tryd.prog 48 #[.pointer (some ⟨Bh, 0, none⟩), .pointer (some ⟨Bf, 0, none⟩)] (fun s : SmS => #[.string s.1]) (KpW n₀ Bf) (fun ys => ys.map (·.1) = inputsK h) (fun pre => pre.map (·.1) <+: inputsK h) (inputsK h).length w := fun l J Jx W hW hJ hJx hY h0 =>
  inputs1K_in F m h48 h33 h37 h29 hro hm h hl hs A0 c0 l Bh Bf n₀ J Jx (fun s A B h hg => hJ s A B none h hg (fun r e => by cases e)) hY W (Nat.le_trans hn₀ hW.size) (Nat.lt_of_lt_of_le hBf hW.size)
    ((hW.cell (p := ⟨Bh, 0, none⟩) hBh).trans hch) ((hW.cell (p := ⟨Bf, 0, none⟩) hBf).trans hcf) (fun W' hb => hr W' ((hW.mono hn₀).trans hb)) h0
/-- The iterator's contract. -/
theorem inputsV_stops (F : Fence) (m : Nat) (h48 : F.fn 48) (h33 : F.fn 33) (h37 : F.fn 38) (h29 : F.fn 31) (hro : F.round = none) (hm : 2 ≤ m) (h : List Evt) (hl : h.length ≤ 60) (hs : SmallE h) (A0 : Option Addr) (c0 : Nat) (Bh Bf n₀ : Nat) (w : World) (hn₀ : n₀ ≤ w.heap.size) (hBh : Bh < w.heap.size) (hBf : Bf < w.heap.size)
    (hch : w.cell? ⟨Bh, 0, none⟩ = some (.slice A0 h.length c0)) (hcf : w.cell? ⟨Bf, 0, none⟩ = some (.func (.func 38) #[] #[])) (hr : ∀ W', Below n₀ w W' → Kd.C k26 W' A0 h.length h) :
    SeqStopsK F m Tryd.prog 48 #[.pointer (some ⟨Bh, 0, none⟩), .pointer (some ⟨Bf, 0, none⟩)] (fun s : SmS => #[.string s.1]) (KpW n₀ Bf) (fun ys => ys.map (·.1) = inputsV h) (fun pre => pre.map (·.1) <+: inputsV h) (inputsV h).length w := fun l J Jx W hW hJ hJx hY h0 =>
  inputs1V_in F m h48 h33 h37 h29 hro hm h hl hs A0 c0 l Bh Bf n₀ J Jx (fun s A B h hg => hJ s A B none h hg (fun r e => by cases e)) hY W (Nat.le_trans hn₀ hW.size) (Nat.lt_of_lt_of_le hBf hW.size)
    ((hW.cell (p := ⟨Bh, 0, none⟩) hBh).trans hch) ((hW.cell (p := ⟨Bf, 0, none⟩) hBf).trans hcf) (fun W' hb => hr W' ((hW.mono hn₀).trans hb)) h0
end Go.Proofs.YtbckobokiioeaaaDoor
