/- The document's example, by itself: its history, as it lies in memory; Formed of it. · The document's example: nothing is tainted. -/
import Derived.Test.YtjlpjpjodhkpdaaGreatDoorQA
import Derived.Test.YtjlpjpjodhkpdaaGreatDoorBase
import Derived.Test.YtjlpjpjodhkpdaaGreatDoorQC
set_option maxHeartbeats 4000000
set_option maxRecDepth 100000
set_option linter.unusedVariables false
set_option linter.unusedSimpArgs false
namespace Go.Proofs.YtjlpjpjodhkpdaaGreatDoor
open Go.RowKit Go.Proofs.YtjlpjpjodhkpdaaGreatDoor.Q Go.Proofs.YtjlpjpjodhkpdaaGreatDoorW.PrintWords
abbrev Evt := S53
def nB : ByteArray := ⟨#[]⟩
def h0 : List Evt := [⟨1, 1, ⟨#[]⟩, ⟨#[]⟩⟩, ⟨1, 2, ⟨#[]⟩, ⟨#[]⟩⟩, ⟨2, 1, ⟨#[97]⟩, ⟨#[]⟩⟩, ⟨2, 2, ⟨#[97]⟩, ⟨#[]⟩⟩, ⟨3, 1, ⟨#[97]⟩, ⟨#[120]⟩⟩, ⟨3, 2, ⟨#[97]⟩, ⟨#[121]⟩⟩, ⟨4, 1, ⟨#[]⟩, ⟨#[]⟩⟩, ⟨4, 2, ⟨#[]⟩, ⟨#[]⟩⟩]
def h0cells : List Value := [.int .i64 1, .int .i64 1, .string ⟨#[]⟩, .string ⟨#[]⟩, .int .i64 1, .int .i64 2, .string ⟨#[]⟩, .string ⟨#[]⟩, .int .i64 2, .int .i64 1, .string ⟨#[97]⟩, .string ⟨#[]⟩, .int .i64 2, .int .i64 2, .string ⟨#[97]⟩, .string ⟨#[]⟩, .int .i64 3, .int .i64 1, .string ⟨#[97]⟩, .string ⟨#[120]⟩, .int .i64 3, .int .i64 2, .string ⟨#[97]⟩, .string ⟨#[121]⟩, .int .i64 4, .int .i64 1, .string ⟨#[]⟩, .string ⟨#[]⟩, .int .i64 4, .int .i64 2, .string ⟨#[]⟩, .string ⟨#[]⟩]
abbrev H0 (g : Nat) (w : World) : Prop := RowIs w g 53 h0cells
theorem add0 (g n : Nat) : (⟨g, 0, none⟩ : Addr).add n = ⟨g, n, none⟩ := by rw [Addr.add_lit, Nat.zero_add]
theorem kc0 {g : Nat} {w : World} (h : H0 g w) : Kd.C k53 w (some ⟨g, 0, none⟩) h0.length h0 := by
 refine ⟨rfl, by decide, fun _ => ⟨_, rfl, fun j p hj => ⟨[.int .i64 p.f0, .int .i64 p.f1, .string p.f2, .string p.f3], rfl, ⟨_, _, rfl, rfl, _, _, rfl, rfl, _, _, rfl, rfl, rfl⟩, fun i u hu => ?_⟩⟩⟩
 rw [add0]
 have hj8 : j < 8 := (List.getElem?_eq_some_iff.1 hj).1
 have hi4 : i < 4 := (List.getElem?_eq_some_iff.1 hu).1
 have key : ∀ j, j < 8 → ∀ i, i < 4 → h0cells[j * 4 + i]? = [Value.int .i64 (h0.getD j z53).f0, .int .i64 (h0.getD j z53).f1, .string (h0.getD j z53).f2, .string (h0.getD j z53).f3][i]? := by
  intro j hj i hi
  match j, hj, i, hi with
  | 0, _, 0, _ => rfl
  | 0, _, 1, _ => rfl
  | 0, _, 2, _ => rfl
  | 0, _, 3, _ => rfl
  | 1, _, 0, _ => rfl
  | 1, _, 1, _ => rfl
  | 1, _, 2, _ => rfl
  | 1, _, 3, _ => rfl
  | 2, _, 0, _ => rfl
  | 2, _, 1, _ => rfl
  | 2, _, 2, _ => rfl
  | 2, _, 3, _ => rfl
  | 3, _, 0, _ => rfl
  | 3, _, 1, _ => rfl
  | 3, _, 2, _ => rfl
  | 3, _, 3, _ => rfl
  | 4, _, 0, _ => rfl
  | 4, _, 1, _ => rfl
  | 4, _, 2, _ => rfl
  | 4, _, 3, _ => rfl
  | 5, _, 0, _ => rfl
  | 5, _, 1, _ => rfl
  | 5, _, 2, _ => rfl
  | 5, _, 3, _ => rfl
  | 6, _, 0, _ => rfl
  | 6, _, 1, _ => rfl
  | 6, _, 2, _ => rfl
  | 6, _, 3, _ => rfl
  | 7, _, 0, _ => rfl
  | 7, _, 1, _ => rfl
  | 7, _, 2, _ => rfl
  | 7, _, 3, _ => rfl
  | j + 8, hj, _, _ => omega
  | _, _, i + 4, hi => omega
 refine h.cell ?_
 rw [show k53.sz = 4 from rfl, key j hj8 i hi4, List.getD_eq_getElem?_getD, hj]
 exact hu
theorem may_ev (a b : Int) (s t : ByteArray) (w : World) (h : cartoucheref06_May.f 9 a b s t = some true) : Calls Tryz.prog 29 #[.agg #[.int .i64 a, .int .i64 b, .string s, .string t]] w fun e w' => e = .returned (.bool true) ∧ Below w.heap.size w w' :=
 cartoucheref06_May.calls 9 a b s t true w h
theorem first_ev (g : Nat) (w : World) (hg : H0 g w) (a b r : Int) (h : cartoucheref08_first.f 20 h0 a b = some r) : Calls Tryz.prog 46 #[.slice (some ⟨g, 0, none⟩) 8 8, .int .i64 a, .int .i64 b] w fun e w' => e = .returned (.int .i64 r) ∧ Drawn0 w w' :=
 cartoucheref08_first.calls 20 (some ⟨g, 0, none⟩) 8 h0 a b r w (kc0 hg) (Nat.le_refl _) h
theorem end_ev (g : Nat) (w : World) (hg : H0 g w) (a b r : Int) (h : cartoucheref08_End.f 20 h0 a b = some r) : Calls Tryz.prog 47 #[.slice (some ⟨g, 0, none⟩) 8 8, .int .i64 a, .int .i64 b] w fun e w' => e = .returned (.int .i64 r) ∧ Drawn0 w w' :=
 cartoucheref08_End.calls 20 (some ⟨g, 0, none⟩) 8 h0 a b r w (kc0 hg) (Nat.le_refl _) h
theorem formed_h0 (g : Nat) (w : World) (hg : H0 g w) : Calls Tryz.prog 18 #[.slice (some ⟨g, 0, none⟩) 8 8] w fun e w' => e = .returned (.tuple #[.int .i64 8, .int .i64 0]) ∧ Below w.heap.size w w' := by
 have HG := Lib.hid hg
 clear hg
 go_enter Tryz.func18, Tryz.ntmps18
 go_wp2
 go_loopw [4] (fun y wr => ∃ k : Int, y = .int .i64 k ∧ 0 ≤ k ∧ k ≤ 8 ∧ Below w.heap.size w wr) (fun y _ => (9 - intOf y).toNat)
 case atStart => exact ⟨0, rfl, by decide, by decide, Below.refl _ _⟩
 case round =>
  obtain ⟨k, rfl, hk0, hk8, hB⟩ := hrel
  have HB := Lib.hid hB
  have HGr := Lib.hid (HG.out.below hB)
  clear hB
  have hkk : k = 0 ∨ k = 1 ∨ k = 2 ∨ k = 3 ∨ k = 4 ∨ k = 5 ∨ k = 6 ∨ k = 7 ∨ k = 8 := by omega
  clear hk0 hk8
  rcases hkk with rfl | rfl | rfl | rfl | rfl | rfl | rfl | rfl | rfl
  · have c0 := HGr.out.cell (i := 0) rfl; have c1 := HGr.out.cell (i := 1) rfl; have c2 := HGr.out.cell (i := 2) rfl; have c3 := HGr.out.cell (i := 3) rfl
    have b0 := RowIs.new wr 53 [.int .i64 1, .int .i64 1, .string ⟨#[]⟩, .string ⟨#[]⟩]
    have d0 := b0.cell (i := 0) rfl; have d1 := b0.cell (i := 1) rfl; have d2 := b0.cell (i := 2) rfl; have d3 := b0.cell (i := 3) rfl
    have HB0 := Lib.hid b0
    clear b0
    go_wp2_with (first
     | (go_at_call 29; (with_reducible refine (may_ev _ _ _ _ _ (by kernel_rfl)).mono ?_); rintro e w2 ⟨rfl, hb⟩; have HB1 := Lib.hid (HB0.out.below hb); have HG2 := Lib.hid ((HGr.out.alloc _).below hb); have HB2 := Lib.hid (below_step (HB.out.alloc HB.out.size _) hb); have d0 := HB1.out.cell (i := 0) rfl; have d1 := HB1.out.cell (i := 1) rfl; have d2 := HB1.out.cell (i := 2) rfl; have d3 := HB1.out.cell (i := 3) rfl; clear hb)
     | (go_at_call 46; (with_reducible refine (first_ev g _ HG2.out _ _ (-1) (by kernel_rfl)).mono ?_); rintro e w' ⟨rfl, ⟨nd, rfl⟩⟩)
     | (go_at_call 47; (with_reducible refine (end_ev g _ (RowIs.drewN HG2.out _) _ _ (-1) (by kernel_rfl)).mono ?_); rintro e w' ⟨rfl, ⟨ne, rfl⟩⟩))
    go_roundw
    case rel => exact ⟨1, rfl, by decide, by decide, pw_below_drewN HB2.out _⟩
    case measure => simp [intOf]
  · have c0 := HGr.out.cell (i := 4) rfl; have c1 := HGr.out.cell (i := 5) rfl; have c2 := HGr.out.cell (i := 6) rfl; have c3 := HGr.out.cell (i := 7) rfl
    have b0 := RowIs.new wr 53 [.int .i64 1, .int .i64 2, .string ⟨#[]⟩, .string ⟨#[]⟩]
    have d0 := b0.cell (i := 0) rfl; have d1 := b0.cell (i := 1) rfl; have d2 := b0.cell (i := 2) rfl; have d3 := b0.cell (i := 3) rfl
    have HB0 := Lib.hid b0
    clear b0
    go_wp2_with (first
     | (go_at_call 29; (with_reducible refine (may_ev _ _ _ _ _ (by kernel_rfl)).mono ?_); rintro e w2 ⟨rfl, hb⟩; have HB1 := Lib.hid (HB0.out.below hb); have HG2 := Lib.hid ((HGr.out.alloc _).below hb); have HB2 := Lib.hid (below_step (HB.out.alloc HB.out.size _) hb); have d0 := HB1.out.cell (i := 0) rfl; have d1 := HB1.out.cell (i := 1) rfl; have d2 := HB1.out.cell (i := 2) rfl; have d3 := HB1.out.cell (i := 3) rfl; clear hb)
     | (go_at_call 46; (with_reducible refine (first_ev g _ HG2.out _ _ (-1) (by kernel_rfl)).mono ?_); rintro e w' ⟨rfl, ⟨nd, rfl⟩⟩)
     | (go_at_call 47; (with_reducible refine (end_ev g _ (RowIs.drewN HG2.out _) _ _ (-1) (by kernel_rfl)).mono ?_); rintro e w' ⟨rfl, ⟨ne, rfl⟩⟩))
    go_roundw
    case rel => exact ⟨2, rfl, by decide, by decide, pw_below_drewN HB2.out _⟩
    case measure => simp [intOf]
  · have c0 := HGr.out.cell (i := 8) rfl; have c1 := HGr.out.cell (i := 9) rfl; have c2 := HGr.out.cell (i := 10) rfl; have c3 := HGr.out.cell (i := 11) rfl
    have b0 := RowIs.new wr 53 [.int .i64 2, .int .i64 1, .string ⟨#[97]⟩, .string ⟨#[]⟩]
    have d0 := b0.cell (i := 0) rfl; have d1 := b0.cell (i := 1) rfl; have d2 := b0.cell (i := 2) rfl; have d3 := b0.cell (i := 3) rfl
    have HB0 := Lib.hid b0
    clear b0
    go_wp2_with (first
     | (go_at_call 29; (with_reducible refine (may_ev _ _ _ _ _ (by kernel_rfl)).mono ?_); rintro e w2 ⟨rfl, hb⟩; have HB1 := Lib.hid (HB0.out.below hb); have HG2 := Lib.hid ((HGr.out.alloc _).below hb); have HB2 := Lib.hid (below_step (HB.out.alloc HB.out.size _) hb); have d0 := HB1.out.cell (i := 0) rfl; have d1 := HB1.out.cell (i := 1) rfl; have d2 := HB1.out.cell (i := 2) rfl; have d3 := HB1.out.cell (i := 3) rfl; clear hb)
     | (go_at_call 46; (with_reducible refine (first_ev g _ HG2.out _ _ (0) (by kernel_rfl)).mono ?_); rintro e w' ⟨rfl, ⟨nd, rfl⟩⟩)
     | (go_at_call 47; (with_reducible refine (end_ev g _ (RowIs.drewN HG2.out _) _ _ (-1) (by kernel_rfl)).mono ?_); rintro e w' ⟨rfl, ⟨ne, rfl⟩⟩))
    go_roundw
    case rel => exact ⟨3, rfl, by decide, by decide, pw_below_drewN HB2.out _⟩
    case measure => simp [intOf]
  · have c0 := HGr.out.cell (i := 12) rfl; have c1 := HGr.out.cell (i := 13) rfl; have c2 := HGr.out.cell (i := 14) rfl; have c3 := HGr.out.cell (i := 15) rfl
    have b0 := RowIs.new wr 53 [.int .i64 2, .int .i64 2, .string ⟨#[97]⟩, .string ⟨#[]⟩]
    have d0 := b0.cell (i := 0) rfl; have d1 := b0.cell (i := 1) rfl; have d2 := b0.cell (i := 2) rfl; have d3 := b0.cell (i := 3) rfl
    have HB0 := Lib.hid b0
    clear b0
    go_wp2_with (first
     | (go_at_call 29; (with_reducible refine (may_ev _ _ _ _ _ (by kernel_rfl)).mono ?_); rintro e w2 ⟨rfl, hb⟩; have HB1 := Lib.hid (HB0.out.below hb); have HG2 := Lib.hid ((HGr.out.alloc _).below hb); have HB2 := Lib.hid (below_step (HB.out.alloc HB.out.size _) hb); have d0 := HB1.out.cell (i := 0) rfl; have d1 := HB1.out.cell (i := 1) rfl; have d2 := HB1.out.cell (i := 2) rfl; have d3 := HB1.out.cell (i := 3) rfl; clear hb)
     | (go_at_call 46; (with_reducible refine (first_ev g _ HG2.out _ _ (1) (by kernel_rfl)).mono ?_); rintro e w' ⟨rfl, ⟨nd, rfl⟩⟩)
     | (go_at_call 47; (with_reducible refine (end_ev g _ (RowIs.drewN HG2.out _) _ _ (-1) (by kernel_rfl)).mono ?_); rintro e w' ⟨rfl, ⟨ne, rfl⟩⟩))
    go_roundw
    case rel => exact ⟨4, rfl, by decide, by decide, pw_below_drewN HB2.out _⟩
    case measure => simp [intOf]
  · have c0 := HGr.out.cell (i := 16) rfl; have c1 := HGr.out.cell (i := 17) rfl; have c2 := HGr.out.cell (i := 18) rfl; have c3 := HGr.out.cell (i := 19) rfl
    have b0 := RowIs.new wr 53 [.int .i64 3, .int .i64 1, .string ⟨#[97]⟩, .string ⟨#[120]⟩]
    have d0 := b0.cell (i := 0) rfl; have d1 := b0.cell (i := 1) rfl; have d2 := b0.cell (i := 2) rfl; have d3 := b0.cell (i := 3) rfl
    have HB0 := Lib.hid b0
    clear b0
    go_wp2_with (first
     | (go_at_call 29; (with_reducible refine (may_ev _ _ _ _ _ (by kernel_rfl)).mono ?_); rintro e w2 ⟨rfl, hb⟩; have HB1 := Lib.hid (HB0.out.below hb); have HG2 := Lib.hid ((HGr.out.alloc _).below hb); have HB2 := Lib.hid (below_step (HB.out.alloc HB.out.size _) hb); have d0 := HB1.out.cell (i := 0) rfl; have d1 := HB1.out.cell (i := 1) rfl; have d2 := HB1.out.cell (i := 2) rfl; have d3 := HB1.out.cell (i := 3) rfl; clear hb)
     | (go_at_call 46; (with_reducible refine (first_ev g _ HG2.out _ _ (0) (by kernel_rfl)).mono ?_); rintro e w' ⟨rfl, ⟨nd, rfl⟩⟩)
     | (go_at_call 47; (with_reducible refine (end_ev g _ (RowIs.drewN HG2.out _) _ _ (-1) (by kernel_rfl)).mono ?_); rintro e w' ⟨rfl, ⟨ne, rfl⟩⟩))
    obtain ⟨wo, rfl⟩ : ∃ wo : World, wo = wr := ⟨_, rfl⟩
    go_loopw [8] (fun y v => ∃ m : Int, y = .int .i64 m ∧ 0 ≤ m ∧ m ≤ 4 ∧ ∃ n, v = w2.drewN n) (fun y _ => (5 - intOf y).toNat)
    case atStart => exact ⟨0, rfl, by decide, by decide, _, rfl⟩
    case round =>
     obtain ⟨m, rfl, hm0, hm1, n, rfl⟩ := hrel
     have hmm : m = 0 ∨ m = 1 ∨ m = 2 ∨ m = 3 ∨ m = 4 := by omega
     clear hm0 hm1
     rcases hmm with rfl | rfl | rfl | rfl | rfl
     · have e0 := HG2.out.cell (i := 0) rfl; have e1 := HG2.out.cell (i := 3) rfl; have e2 := HB1.out.cell (i := 3) rfl
       go_wp2
       go_quiet (fail)
       go_wp2
       go_roundw
       case rel => exact ⟨1, rfl, by decide, by decide, _, rfl⟩
       case measure => simp [intOf]
     · have e0 := HG2.out.cell (i := 4) rfl; have e1 := HG2.out.cell (i := 7) rfl; have e2 := HB1.out.cell (i := 3) rfl
       go_wp2
       go_quiet (fail)
       go_wp2
       go_roundw
       case rel => exact ⟨2, rfl, by decide, by decide, _, rfl⟩
       case measure => simp [intOf]
     · have e0 := HG2.out.cell (i := 8) rfl; have e1 := HG2.out.cell (i := 11) rfl; have e2 := HB1.out.cell (i := 3) rfl
       go_wp2
       go_quiet (fail)
       go_wp2
       go_roundw
       case rel => exact ⟨3, rfl, by decide, by decide, _, rfl⟩
       case measure => simp [intOf]
     · have e0 := HG2.out.cell (i := 12) rfl; have e1 := HG2.out.cell (i := 15) rfl; have e2 := HB1.out.cell (i := 3) rfl
       go_wp2
       go_quiet (fail)
       go_wp2
       go_roundw
       case rel => exact ⟨4, rfl, by decide, by decide, _, rfl⟩
       case measure => simp [intOf]
     · have d0 := HB1.out.cell (i := 0) rfl
       go_wp2
       go_roundw
       case rel => exact ⟨5, rfl, by decide, by decide, pw_below_drewN HB2.out _⟩
       case measure => simp [intOf]
  · have c0 := HGr.out.cell (i := 20) rfl; have c1 := HGr.out.cell (i := 21) rfl; have c2 := HGr.out.cell (i := 22) rfl; have c3 := HGr.out.cell (i := 23) rfl
    have b0 := RowIs.new wr 53 [.int .i64 3, .int .i64 2, .string ⟨#[97]⟩, .string ⟨#[121]⟩]
    have d0 := b0.cell (i := 0) rfl; have d1 := b0.cell (i := 1) rfl; have d2 := b0.cell (i := 2) rfl; have d3 := b0.cell (i := 3) rfl
    have HB0 := Lib.hid b0
    clear b0
    go_wp2_with (first
     | (go_at_call 29; (with_reducible refine (may_ev _ _ _ _ _ (by kernel_rfl)).mono ?_); rintro e w2 ⟨rfl, hb⟩; have HB1 := Lib.hid (HB0.out.below hb); have HG2 := Lib.hid ((HGr.out.alloc _).below hb); have HB2 := Lib.hid (below_step (HB.out.alloc HB.out.size _) hb); have d0 := HB1.out.cell (i := 0) rfl; have d1 := HB1.out.cell (i := 1) rfl; have d2 := HB1.out.cell (i := 2) rfl; have d3 := HB1.out.cell (i := 3) rfl; clear hb)
     | (go_at_call 46; (with_reducible refine (first_ev g _ HG2.out _ _ (1) (by kernel_rfl)).mono ?_); rintro e w' ⟨rfl, ⟨nd, rfl⟩⟩)
     | (go_at_call 47; (with_reducible refine (end_ev g _ (RowIs.drewN HG2.out _) _ _ (-1) (by kernel_rfl)).mono ?_); rintro e w' ⟨rfl, ⟨ne, rfl⟩⟩))
    obtain ⟨wo, rfl⟩ : ∃ wo : World, wo = wr := ⟨_, rfl⟩
    go_loopw [8] (fun y v => ∃ m : Int, y = .int .i64 m ∧ 0 ≤ m ∧ m ≤ 5 ∧ ∃ n, v = w2.drewN n) (fun y _ => (6 - intOf y).toNat)
    case atStart => exact ⟨0, rfl, by decide, by decide, _, rfl⟩
    case round =>
     obtain ⟨m, rfl, hm0, hm1, n, rfl⟩ := hrel
     have hmm : m = 0 ∨ m = 1 ∨ m = 2 ∨ m = 3 ∨ m = 4 ∨ m = 5 := by omega
     clear hm0 hm1
     rcases hmm with rfl | rfl | rfl | rfl | rfl | rfl
     · have e0 := HG2.out.cell (i := 0) rfl; have e1 := HG2.out.cell (i := 3) rfl; have e2 := HB1.out.cell (i := 3) rfl
       go_wp2
       go_quiet (fail)
       go_wp2
       go_roundw
       case rel => exact ⟨1, rfl, by decide, by decide, _, rfl⟩
       case measure => simp [intOf]
     · have e0 := HG2.out.cell (i := 4) rfl; have e1 := HG2.out.cell (i := 7) rfl; have e2 := HB1.out.cell (i := 3) rfl
       go_wp2
       go_quiet (fail)
       go_wp2
       go_roundw
       case rel => exact ⟨2, rfl, by decide, by decide, _, rfl⟩
       case measure => simp [intOf]
     · have e0 := HG2.out.cell (i := 8) rfl; have e1 := HG2.out.cell (i := 11) rfl; have e2 := HB1.out.cell (i := 3) rfl
       go_wp2
       go_quiet (fail)
       go_wp2
       go_roundw
       case rel => exact ⟨3, rfl, by decide, by decide, _, rfl⟩
       case measure => simp [intOf]
     · have e0 := HG2.out.cell (i := 12) rfl; have e1 := HG2.out.cell (i := 15) rfl; have e2 := HB1.out.cell (i := 3) rfl
       go_wp2
       go_quiet (fail)
       go_wp2
       go_roundw
       case rel => exact ⟨4, rfl, by decide, by decide, _, rfl⟩
       case measure => simp [intOf]
     · have e0 := HG2.out.cell (i := 16) rfl; have e1 := HG2.out.cell (i := 19) rfl; have e2 := HB1.out.cell (i := 3) rfl
       go_wp2
       go_quiet (fail)
       go_wp2
       go_roundw
       case rel => exact ⟨5, rfl, by decide, by decide, _, rfl⟩
       case measure => simp [intOf]
     · have d0 := HB1.out.cell (i := 0) rfl
       go_wp2
       go_roundw
       case rel => exact ⟨6, rfl, by decide, by decide, pw_below_drewN HB2.out _⟩
       case measure => simp [intOf]
  · have c0 := HGr.out.cell (i := 24) rfl; have c1 := HGr.out.cell (i := 25) rfl; have c2 := HGr.out.cell (i := 26) rfl; have c3 := HGr.out.cell (i := 27) rfl
    have b0 := RowIs.new wr 53 [.int .i64 4, .int .i64 1, .string ⟨#[]⟩, .string ⟨#[]⟩]
    have d0 := b0.cell (i := 0) rfl; have d1 := b0.cell (i := 1) rfl; have d2 := b0.cell (i := 2) rfl; have d3 := b0.cell (i := 3) rfl
    have HB0 := Lib.hid b0
    clear b0
    go_wp2_with (first
     | (go_at_call 29; (with_reducible refine (may_ev _ _ _ _ _ (by kernel_rfl)).mono ?_); rintro e w2 ⟨rfl, hb⟩; have HB1 := Lib.hid (HB0.out.below hb); have HG2 := Lib.hid ((HGr.out.alloc _).below hb); have HB2 := Lib.hid (below_step (HB.out.alloc HB.out.size _) hb); have d0 := HB1.out.cell (i := 0) rfl; have d1 := HB1.out.cell (i := 1) rfl; have d2 := HB1.out.cell (i := 2) rfl; have d3 := HB1.out.cell (i := 3) rfl; clear hb)
     | (go_at_call 46; (with_reducible refine (first_ev g _ HG2.out _ _ (0) (by kernel_rfl)).mono ?_); rintro e w' ⟨rfl, ⟨nd, rfl⟩⟩)
     | (go_at_call 47; (with_reducible refine (end_ev g _ (RowIs.drewN HG2.out _) _ _ (-1) (by kernel_rfl)).mono ?_); rintro e w' ⟨rfl, ⟨ne, rfl⟩⟩))
    go_roundw
    case rel => exact ⟨7, rfl, by decide, by decide, pw_below_drewN HB2.out _⟩
    case measure => simp [intOf]
  · have c0 := HGr.out.cell (i := 28) rfl; have c1 := HGr.out.cell (i := 29) rfl; have c2 := HGr.out.cell (i := 30) rfl; have c3 := HGr.out.cell (i := 31) rfl
    have b0 := RowIs.new wr 53 [.int .i64 4, .int .i64 2, .string ⟨#[]⟩, .string ⟨#[]⟩]
    have d0 := b0.cell (i := 0) rfl; have d1 := b0.cell (i := 1) rfl; have d2 := b0.cell (i := 2) rfl; have d3 := b0.cell (i := 3) rfl
    have HB0 := Lib.hid b0
    clear b0
    go_wp2_with (first
     | (go_at_call 29; (with_reducible refine (may_ev _ _ _ _ _ (by kernel_rfl)).mono ?_); rintro e w2 ⟨rfl, hb⟩; have HB1 := Lib.hid (HB0.out.below hb); have HG2 := Lib.hid ((HGr.out.alloc _).below hb); have HB2 := Lib.hid (below_step (HB.out.alloc HB.out.size _) hb); have d0 := HB1.out.cell (i := 0) rfl; have d1 := HB1.out.cell (i := 1) rfl; have d2 := HB1.out.cell (i := 2) rfl; have d3 := HB1.out.cell (i := 3) rfl; clear hb)
     | (go_at_call 46; (with_reducible refine (first_ev g _ HG2.out _ _ (1) (by kernel_rfl)).mono ?_); rintro e w' ⟨rfl, ⟨nd, rfl⟩⟩)
     | (go_at_call 47; (with_reducible refine (end_ev g _ (RowIs.drewN HG2.out _) _ _ (-1) (by kernel_rfl)).mono ?_); rintro e w' ⟨rfl, ⟨ne, rfl⟩⟩))
    go_roundw
    case rel => exact ⟨8, rfl, by decide, by decide, pw_below_drewN HB2.out _⟩
    case measure => simp [intOf]
  · go_wp2
    obtain ⟨wo, rfl⟩ : ∃ wo : World, wo = wr := ⟨_, rfl⟩
    go_loopw [9] (fun y v => ∃ m : Int, y = .int .i64 m ∧ 0 ≤ m ∧ m ≤ 8 ∧ ∃ n, v = wo.drewN n) (fun y _ => (9 - intOf y).toNat)
    case atStart => exact ⟨0, rfl, by decide, by decide, 0, rfl⟩
    case round =>
     obtain ⟨m, rfl, hm0, hm1, n, rfl⟩ := hrel
     have hmm : m = 0 ∨ m = 1 ∨ m = 2 ∨ m = 3 ∨ m = 4 ∨ m = 5 ∨ m = 6 ∨ m = 7 ∨ m = 8 := by omega
     clear hm0 hm1
     rcases hmm with rfl | rfl | rfl | rfl | rfl | rfl | rfl | rfl | rfl
     · have e0 := HGr.out.cell (i := 1) rfl
       go_wp2_with (go_at_call 47; (with_reducible refine (end_ev g _ (RowIs.drewN HGr.out _) _ _ 6 (by kernel_rfl)).mono ?_); rintro e w' ⟨rfl, ⟨ne, rfl⟩⟩)
       go_roundw
       case rel => exact ⟨1, rfl, by decide, by decide, _, rfl⟩
       case measure => simp [intOf]
     · have e0 := HGr.out.cell (i := 5) rfl
       go_wp2_with (go_at_call 47; (with_reducible refine (end_ev g _ (RowIs.drewN HGr.out _) _ _ 7 (by kernel_rfl)).mono ?_); rintro e w' ⟨rfl, ⟨ne, rfl⟩⟩)
       go_roundw
       case rel => exact ⟨2, rfl, by decide, by decide, _, rfl⟩
       case measure => simp [intOf]
     · have e0 := HGr.out.cell (i := 9) rfl
       go_wp2_with (go_at_call 47; (with_reducible refine (end_ev g _ (RowIs.drewN HGr.out _) _ _ 6 (by kernel_rfl)).mono ?_); rintro e w' ⟨rfl, ⟨ne, rfl⟩⟩)
       go_roundw
       case rel => exact ⟨3, rfl, by decide, by decide, _, rfl⟩
       case measure => simp [intOf]
     · have e0 := HGr.out.cell (i := 13) rfl
       go_wp2_with (go_at_call 47; (with_reducible refine (end_ev g _ (RowIs.drewN HGr.out _) _ _ 7 (by kernel_rfl)).mono ?_); rintro e w' ⟨rfl, ⟨ne, rfl⟩⟩)
       go_roundw
       case rel => exact ⟨4, rfl, by decide, by decide, _, rfl⟩
       case measure => simp [intOf]
     · have e0 := HGr.out.cell (i := 17) rfl
       go_wp2_with (go_at_call 47; (with_reducible refine (end_ev g _ (RowIs.drewN HGr.out _) _ _ 6 (by kernel_rfl)).mono ?_); rintro e w' ⟨rfl, ⟨ne, rfl⟩⟩)
       go_roundw
       case rel => exact ⟨5, rfl, by decide, by decide, _, rfl⟩
       case measure => simp [intOf]
     · have e0 := HGr.out.cell (i := 21) rfl
       go_wp2_with (go_at_call 47; (with_reducible refine (end_ev g _ (RowIs.drewN HGr.out _) _ _ 7 (by kernel_rfl)).mono ?_); rintro e w' ⟨rfl, ⟨ne, rfl⟩⟩)
       go_roundw
       case rel => exact ⟨6, rfl, by decide, by decide, _, rfl⟩
       case measure => simp [intOf]
     · have e0 := HGr.out.cell (i := 25) rfl
       go_wp2_with (go_at_call 47; (with_reducible refine (end_ev g _ (RowIs.drewN HGr.out _) _ _ 6 (by kernel_rfl)).mono ?_); rintro e w' ⟨rfl, ⟨ne, rfl⟩⟩)
       go_roundw
       case rel => exact ⟨7, rfl, by decide, by decide, _, rfl⟩
       case measure => simp [intOf]
     · have e0 := HGr.out.cell (i := 29) rfl
       go_wp2_with (go_at_call 47; (with_reducible refine (end_ev g _ (RowIs.drewN HGr.out _) _ _ 7 (by kernel_rfl)).mono ?_); rintro e w' ⟨rfl, ⟨ne, rfl⟩⟩)
       go_roundw
       case rel => exact ⟨8, rfl, by decide, by decide, _, rfl⟩
       case measure => simp [intOf]
     · go_wp2
       go_ret2
       exact ⟨rfl, pw_below_drewN HB.out _⟩
end Go.Proofs.YtjlpjpjodhkpdaaGreatDoor
namespace Go.Proofs.YtjlpjpjodhkpdaaGreatDoor
open Go.RowKit Go.Proofs.YtjlpjpjodhkpdaaGreatDoor.Q Go.Proofs.YtjlpjpjodhkpdaaGreatDoorW.PrintWords
theorem counts_ev (g : Nat) (w : World) (hg : H0 g w) (a : Int) (r : Bool) (h : cartoucheref09_counts.f 20 h0 a = some r) : Calls Tryz.prog 119 #[.slice (some ⟨g, 0, none⟩) 8 8, .int .i64 a] w fun e w' => e = .returned (.bool r) ∧ Drawn0 w w' :=
 cartoucheref09_counts.calls 20 (some ⟨g, 0, none⟩) 8 h0 a r w (kc0 hg) (Nat.le_refl _) h
theorem last_ev (g : Nat) (w : World) (hg : H0 g w) (a b r : Int) (s : ByteArray) (h : cartoucheref08_Last.f 20 h0 a s b = some r) : Calls Tryz.prog 120 #[.slice (some ⟨g, 0, none⟩) 8 8, .int .i64 a, .string s, .int .i64 b] w fun e w' => e = .returned (.int .i64 r) ∧ Drawn0 w w' :=
 cartoucheref08_Last.calls 20 (some ⟨g, 0, none⟩) 8 h0 a s b r w (kc0 hg) (Nat.le_refl _) h
theorem writer_ev (g : Nat) (w : World) (hg : H0 g w) (s t : ByteArray) (r : Int) (h : cartoucheref08_Writer.f 20 h0 s t = some r) : Calls Tryz.prog 48 #[.slice (some ⟨g, 0, none⟩) 8 8, .string s, .string t] w fun e w' => e = .returned (.int .i64 r) ∧ Drawn0 w w' :=
 cartoucheref08_Writer.calls 20 (some ⟨g, 0, none⟩) 8 h0 s t r w (kc0 hg) (Nat.le_refl _) h
theorem at_h0 (g : Nat) (w : World) (hg : H0 g w) (i : Int) (h0' : 0 ≤ i) (h8 : i < 8) : Calls Tryz.prog 89 #[.slice (some ⟨g, 0, none⟩) 8 8, .int .i64 i] w fun e w' => e = .returned (.agg #[.int .i64 0, .int .i64 0, .int .i64 0]) ∧ Below w.heap.size w w' := by
 have HG := Lib.hid hg
 have hii : i = 0 ∨ i = 1 ∨ i = 2 ∨ i = 3 ∨ i = 4 ∨ i = 5 ∨ i = 6 ∨ i = 7 := by omega
 clear hg h0' h8
 have hz := RowIs.new w 24 [.int .i64 0, .int .i64 0, .int .i64 0]
 have z0 := hz.cell (i := 0) rfl; have z1 := hz.cell (i := 1) rfl; have z2 := hz.cell (i := 2) rfl
 have y0 := hz.frozen 0; have y1 := hz.frozen 1; have y2 := hz.frozen 2
 have HB := Lib.hid ((Below.refl w.heap.size w).alloc (Nat.le_refl _) (.cells #[.int .i64 0, .int .i64 0, .int .i64 0] 24))
 clear hz
 rcases hii with rfl | rfl | rfl | rfl | rfl | rfl | rfl | rfl
 · go_enter Tryz.func89, Tryz.ntmps89
   go_wp2_with (go_at_call 119; (with_reducible refine (counts_ev g _ (RowIs.alloc HG.out _) _ false (by kernel_rfl)).mono ?_); rintro e w' ⟨rfl, ⟨nd, rfl⟩⟩)
   refine bodyPost_ret (v := .agg #[.int .i64 0, .int .i64 0, .int .i64 0]) (by simp [results, Tryz.results89, go_sem]) rfl ⟨rfl, ?_⟩
   repeat (first | exact HB.out | apply pw_below_drewN | refine below_set ?_ (Nat.le_refl _))
 · go_enter Tryz.func89, Tryz.ntmps89
   go_wp2_with (go_at_call 119; (with_reducible refine (counts_ev g _ (RowIs.alloc HG.out _) _ false (by kernel_rfl)).mono ?_); rintro e w' ⟨rfl, ⟨nd, rfl⟩⟩)
   refine bodyPost_ret (v := .agg #[.int .i64 0, .int .i64 0, .int .i64 0]) (by simp [results, Tryz.results89, go_sem]) rfl ⟨rfl, ?_⟩
   repeat (first | exact HB.out | apply pw_below_drewN | refine below_set ?_ (Nat.le_refl _))
 · have c0 := (HG.out.alloc (.cells #[.int .i64 0, .int .i64 0, .int .i64 0] 24)).cell (i := 8) rfl; have c1 := (HG.out.alloc (.cells #[.int .i64 0, .int .i64 0, .int .i64 0] 24)).cell (i := 9) rfl; have c2 := (HG.out.alloc (.cells #[.int .i64 0, .int .i64 0, .int .i64 0] 24)).cell (i := 10) rfl; have c3 := (HG.out.alloc (.cells #[.int .i64 0, .int .i64 0, .int .i64 0] 24)).cell (i := 11) rfl
   go_enter Tryz.func89, Tryz.ntmps89
   go_wp2_with (first
    | (go_at_call 119; (with_reducible refine (counts_ev g _ (RowIs.alloc HG.out _) _ true (by kernel_rfl)).mono ?_); rintro e w' ⟨rfl, ⟨nd, rfl⟩⟩)
    | (go_at_call 120; (with_reducible refine (last_ev g _ (by repeat (first | exact HG.out | apply RowIs.drewN | apply RowIs.alloc)) _ _ (-1) _ (by kernel_rfl)).mono ?_); rintro e w' ⟨rfl, ⟨ne, rfl⟩⟩)
    | (go_at_call 48; (with_reducible refine (writer_ev g _ (by repeat (first | exact HG.out | apply RowIs.drewN | apply RowIs.alloc)) _ _ (-1) (by kernel_rfl)).mono ?_); rintro e w' ⟨rfl, ⟨nf, rfl⟩⟩))
   refine bodyPost_ret (v := .agg #[.int .i64 0, .int .i64 0, .int .i64 0]) (by simp [results, Tryz.results89, go_sem]) rfl ⟨rfl, ?_⟩
   repeat (first | exact HB.out | apply pw_below_drewN | apply below_alloc | refine below_set ?_ (Nat.le_refl _))
 · have c0 := (HG.out.alloc (.cells #[.int .i64 0, .int .i64 0, .int .i64 0] 24)).cell (i := 12) rfl; have c1 := (HG.out.alloc (.cells #[.int .i64 0, .int .i64 0, .int .i64 0] 24)).cell (i := 13) rfl; have c2 := (HG.out.alloc (.cells #[.int .i64 0, .int .i64 0, .int .i64 0] 24)).cell (i := 14) rfl; have c3 := (HG.out.alloc (.cells #[.int .i64 0, .int .i64 0, .int .i64 0] 24)).cell (i := 15) rfl
   go_enter Tryz.func89, Tryz.ntmps89
   go_wp2_with (first
    | (go_at_call 119; (with_reducible refine (counts_ev g _ (RowIs.alloc HG.out _) _ true (by kernel_rfl)).mono ?_); rintro e w' ⟨rfl, ⟨nd, rfl⟩⟩)
    | (go_at_call 120; (with_reducible refine (last_ev g _ (by repeat (first | exact HG.out | apply RowIs.drewN | apply RowIs.alloc)) _ _ (-1) _ (by kernel_rfl)).mono ?_); rintro e w' ⟨rfl, ⟨ne, rfl⟩⟩)
    | (go_at_call 48; (with_reducible refine (writer_ev g _ (by repeat (first | exact HG.out | apply RowIs.drewN | apply RowIs.alloc)) _ _ (-1) (by kernel_rfl)).mono ?_); rintro e w' ⟨rfl, ⟨nf, rfl⟩⟩))
   refine bodyPost_ret (v := .agg #[.int .i64 0, .int .i64 0, .int .i64 0]) (by simp [results, Tryz.results89, go_sem]) rfl ⟨rfl, ?_⟩
   repeat (first | exact HB.out | apply pw_below_drewN | apply below_alloc | refine below_set ?_ (Nat.le_refl _))
 · go_enter Tryz.func89, Tryz.ntmps89
   go_wp2_with (go_at_call 119; (with_reducible refine (counts_ev g _ (RowIs.alloc HG.out _) _ false (by kernel_rfl)).mono ?_); rintro e w' ⟨rfl, ⟨nd, rfl⟩⟩)
   refine bodyPost_ret (v := .agg #[.int .i64 0, .int .i64 0, .int .i64 0]) (by simp [results, Tryz.results89, go_sem]) rfl ⟨rfl, ?_⟩
   repeat (first | exact HB.out | apply pw_below_drewN | refine below_set ?_ (Nat.le_refl _))
 · go_enter Tryz.func89, Tryz.ntmps89
   go_wp2_with (go_at_call 119; (with_reducible refine (counts_ev g _ (RowIs.alloc HG.out _) _ false (by kernel_rfl)).mono ?_); rintro e w' ⟨rfl, ⟨nd, rfl⟩⟩)
   refine bodyPost_ret (v := .agg #[.int .i64 0, .int .i64 0, .int .i64 0]) (by simp [results, Tryz.results89, go_sem]) rfl ⟨rfl, ?_⟩
   repeat (first | exact HB.out | apply pw_below_drewN | refine below_set ?_ (Nat.le_refl _))
 · go_enter Tryz.func89, Tryz.ntmps89
   go_wp2_with (go_at_call 119; (with_reducible refine (counts_ev g _ (RowIs.alloc HG.out _) _ false (by kernel_rfl)).mono ?_); rintro e w' ⟨rfl, ⟨nd, rfl⟩⟩)
   refine bodyPost_ret (v := .agg #[.int .i64 0, .int .i64 0, .int .i64 0]) (by simp [results, Tryz.results89, go_sem]) rfl ⟨rfl, ?_⟩
   repeat (first | exact HB.out | apply pw_below_drewN | refine below_set ?_ (Nat.le_refl _))
 · go_enter Tryz.func89, Tryz.ntmps89
   go_wp2_with (go_at_call 119; (with_reducible refine (counts_ev g _ (RowIs.alloc HG.out _) _ false (by kernel_rfl)).mono ?_); rintro e w' ⟨rfl, ⟨nd, rfl⟩⟩)
   refine bodyPost_ret (v := .agg #[.int .i64 0, .int .i64 0, .int .i64 0]) (by simp [results, Tryz.results89, go_sem]) rfl ⟨rfl, ?_⟩
   repeat (first | exact HB.out | apply pw_below_drewN | refine below_set ?_ (Nat.le_refl _))
theorem all9_h0 (g : Nat) (w : World) (hg : H0 g w) : Calls Tryz.prog 57 #[.slice (some ⟨g, 0, none⟩) 8 8] w fun e w' => e = .returned (.slice none 0 0) ∧ Below w.heap.size w w' := by
 have HG := Lib.hid hg
 clear hg
 go_enter Tryz.func57, Tryz.ntmps57
 go_wp2
 go_loopw [3, 4] (fun x y wr => x = .slice none 0 0 ∧ ∃ k : Int, y = .int .i64 k ∧ 0 ≤ k ∧ k ≤ 8 ∧ Below w.heap.size w wr) (fun _ y _ => (9 - intOf y).toNat)
 case atStart => exact ⟨rfl, 0, rfl, by decide, by decide, Below.refl _ _⟩
 case round =>
  obtain ⟨rfl, k, rfl, hk0, hk8, hB⟩ := hrel
  have HB := Lib.hid hB
  have HGr := Lib.hid (HG.out.below hB)
  clear hB
  by_cases hlt : k < 8
  · have hd : decide (k < 8) = true := by simpa using hlt
    go_wp2_with (go_at_call 89; (with_reducible refine (at_h0 g _ HGr.out k hk0 hlt).mono ?_); rintro e w2 ⟨rfl, hb⟩; have HB2 := Lib.hid hb; clear hb)
    go_roundw
    case rel => exact ⟨rfl, k + 1, rfl, by omega, by omega, below_alloc (below_step HB.out HB2.out) _⟩
    case measure => simp [intOf]; omega
  · have hd : decide (k < 8) = false := by simpa using hlt
    go_wp2
    go_ret
    exact ⟨rfl, HB.out⟩
end Go.Proofs.YtjlpjpjodhkpdaaGreatDoor
