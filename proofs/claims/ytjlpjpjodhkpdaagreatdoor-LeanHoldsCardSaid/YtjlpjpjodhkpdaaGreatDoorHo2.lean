/- ref10.Holds: where it says yes. -/
import Derived.Test.YtjlpjpjodhkpdaaGreatDoorHo1
set_option linter.unusedVariables false
set_option linter.unusedSimpArgs false
namespace Go.Proofs.YtjlpjpjodhkpdaaGreatDoor
open Go.RowKit Go.Proofs.YtjlpjpjodhkpdaaGreatDoor.Q Go.Proofs.YtjlpjpjodhkpdaaGreatDoorW.PrintWords

set_option maxHeartbeats 8000000 in
set_option maxRecDepth 100000 in
theorem holds_1 (A0 : Option Addr) (c0 : Nat) (l : List Evn) (e1 e2 : Int) (i j : Nat) (w : World) (hr : Kd.C k53 w A0 l.length l) (hl : l.length ≤ 9223372036854775806) (f t : Int) (hf : comK l e1 = f) (ht : comK l e2 = t) (f0 : 0 ≤ f) (hne : e1 ≠ e2) (hi : i < l.length) (hj : j < l.length) (a0 b0 : Int) (key a3 b3 : ByteArray) (ha : rd_T53 l (i : Int) = ⟨a0, e1, key, a3⟩) (hb : rd_T53 l (j : Int) = ⟨b0, e2, key, b3⟩) (h3 : a0 = 3) (h4 : b0 = 3) (hft : f < t) :
    Calls Tryz.prog 30 #[.slice A0 l.length c0, .agg #[.int .i64 1, .int .i64 e1, .int .i64 e2, .int .i64 i, .int .i64 j]] w fun e w' => e = .returned (.bool true) ∧ Below w.heap.size w w' := by
  have HF := Lib.hid (fun u (hb : Below w.heap.size w u) => committed_any A0 c0 l e1 u (Kd.C_below hr hb) hl)
  have HT := Lib.hid (fun u (hb : Below w.heap.size w u) => committed_any A0 c0 l e2 u (Kd.C_below hr hb) hl)
  simp only [hf, ht] at HF HT
  have HR := Lib.hid hr
  have HB := Lib.hid (below_alloc (Below.refl w.heap.size w) (.cells #[.int .i64 1, .int .i64 e1, .int .i64 e2, .int .i64 (i : Int), .int .i64 (j : Int)] 32))
  have HX := Lib.hid (RowIs.new w 32 [.int .i64 1, .int .i64 e1, .int .i64 e2, .int .i64 (i : Int), .int .i64 (j : Int)])
  subst h3 h4
  obtain ⟨ad, hA0, y0, y1, y2, y3⟩ := at_T53 hr (i : Int) (by omega) (by omega)
  obtain ⟨ad', hA1, z0, z1, z2, z3⟩ := at_T53 hr (j : Int) (by omega) (by omega)
  subst hA0
  obtain rfl : ad = ad' := Option.some.inj hA1
  simp only [Int.toNat_natCast, ha, hb] at y0 y1 y2 y3 z0 z1 z2 z3
  have g1 : decide (f < 0) = false := decide_eq_false (by omega)
  have g2 : decide (t < 0) = false := decide_eq_false (by omega)
  have g3 : (e1 == e2) = false := beq_eq_false_iff_ne.mpr hne
  have g4 : decide ((i : Int) < 0) = false := decide_eq_false (by omega)
  have g5 : decide ((j : Int) < 0) = false := decide_eq_false (by omega)
  have g6 : decide ((l.length : Int) ≤ (i : Int)) = false := decide_eq_false (by omega)
  have g7 : decide ((l.length : Int) ≤ (j : Int)) = false := decide_eq_false (by omega)
  clear hr ha hb hf ht hA1
  go_enter Tryz.func30, Tryz.ntmps30
  go_wp2_with (first
    | (go_at_call 60; with_reducible refine (HF.out _ HB.out).mono ?_; rintro e w1 ⟨rfl, hb⟩; have HB1 := Lib.hid (below_step HB.out hb); have hx := HX.out.below hb; have HX1 := Lib.hid hx; have x0 := hx.cell (i := 0) rfl; have x1 := hx.cell (i := 1) rfl; have x2 := hx.cell (i := 2) rfl; have x3 := hx.cell (i := 3) rfl; have x4 := hx.cell (i := 4) rfl; clear hb hx)
    | (go_at_call 60; with_reducible refine (HT.out _ HB1.out).mono ?_; rintro e w2 ⟨rfl, hb⟩; have HB2 := Lib.hid (below_step HB1.out hb); have hx := HX1.out.below hb; have x0 := hx.cell (i := 0) rfl; have x1 := hx.cell (i := 1) rfl; have x2 := hx.cell (i := 2) rfl; have x3 := hx.cell (i := 3) rfl; have x4 := hx.cell (i := 4) rfl; have hb2 := HB2.out; replace y0 := pw_cell_below hb2 y0; replace y1 := pw_cell_below hb2 y1; replace y2 := pw_cell_below hb2 y2; replace y3 := pw_cell_below hb2 y3; replace z0 := pw_cell_below hb2 z0; replace z1 := pw_cell_below hb2 z1; replace z2 := pw_cell_below hb2 z2; replace z3 := pw_cell_below hb2 z3; have n0 := World.block_lt_of_cell? _ _ x0; dsimp only at n0; have n1 := World.block_lt_of_cell? _ _ y1; have n2 := World.block_lt_of_cell? _ _ z1; clear hb hx hb2))
  go_ret
  exact ⟨by first | rfl | (simp; done) | (simp [*]; done), below_alloc (below_alloc HB2.out _) _⟩
set_option maxHeartbeats 8000000 in
set_option maxRecDepth 100000 in
theorem holds_2 (A0 : Option Addr) (c0 : Nat) (l : List Evn) (e1 e2 : Int) (i j : Nat) (w : World) (hr : Kd.C k53 w A0 l.length l) (hl : l.length ≤ 9223372036854775806) (f t : Int) (hf : comK l e1 = f) (ht : comK l e2 = t) (f0 : 0 ≤ f) (hne : e1 ≠ e2) (hi : i < l.length) (hj : j < l.length) (a0 b0 : Int) (key a3 b3 : ByteArray) (ha : rd_T53 l (i : Int) = ⟨a0, e1, key, a3⟩) (hb : rd_T53 l (j : Int) = ⟨b0, e2, key, b3⟩) (h3 : a0 = 3) (h4 : b0 = 2) (t0 : 0 ≤ t) (hv : a3 = b3) :
    Calls Tryz.prog 30 #[.slice A0 l.length c0, .agg #[.int .i64 2, .int .i64 e1, .int .i64 e2, .int .i64 i, .int .i64 j]] w fun e w' => e = .returned (.bool true) ∧ Below w.heap.size w w' := by
  have HF := Lib.hid (fun u (hb : Below w.heap.size w u) => committed_any A0 c0 l e1 u (Kd.C_below hr hb) hl)
  have HT := Lib.hid (fun u (hb : Below w.heap.size w u) => committed_any A0 c0 l e2 u (Kd.C_below hr hb) hl)
  simp only [hf, ht] at HF HT
  have HR := Lib.hid hr
  have HB := Lib.hid (below_alloc (Below.refl w.heap.size w) (.cells #[.int .i64 2, .int .i64 e1, .int .i64 e2, .int .i64 (i : Int), .int .i64 (j : Int)] 32))
  have HX := Lib.hid (RowIs.new w 32 [.int .i64 2, .int .i64 e1, .int .i64 e2, .int .i64 (i : Int), .int .i64 (j : Int)])
  subst h3 h4 hv
  obtain ⟨ad, hA0, y0, y1, y2, y3⟩ := at_T53 hr (i : Int) (by omega) (by omega)
  obtain ⟨ad', hA1, z0, z1, z2, z3⟩ := at_T53 hr (j : Int) (by omega) (by omega)
  subst hA0
  obtain rfl : ad = ad' := Option.some.inj hA1
  simp only [Int.toNat_natCast, ha, hb] at y0 y1 y2 y3 z0 z1 z2 z3
  have g1 : decide (f < 0) = false := decide_eq_false (by omega)
  have g2 : decide (t < 0) = false := decide_eq_false (by omega)
  have g3 : (e1 == e2) = false := beq_eq_false_iff_ne.mpr hne
  have g4 : decide ((i : Int) < 0) = false := decide_eq_false (by omega)
  have g5 : decide ((j : Int) < 0) = false := decide_eq_false (by omega)
  have g6 : decide ((l.length : Int) ≤ (i : Int)) = false := decide_eq_false (by omega)
  have g7 : decide ((l.length : Int) ≤ (j : Int)) = false := decide_eq_false (by omega)
  clear hr ha hb hf ht hA1
  go_enter Tryz.func30, Tryz.ntmps30
  go_wp2_with (first
    | (go_at_call 60; with_reducible refine (HF.out _ HB.out).mono ?_; rintro e w1 ⟨rfl, hb⟩; have HB1 := Lib.hid (below_step HB.out hb); have hx := HX.out.below hb; have HX1 := Lib.hid hx; have x0 := hx.cell (i := 0) rfl; have x1 := hx.cell (i := 1) rfl; have x2 := hx.cell (i := 2) rfl; have x3 := hx.cell (i := 3) rfl; have x4 := hx.cell (i := 4) rfl; clear hb hx)
    | (go_at_call 60; with_reducible refine (HT.out _ HB1.out).mono ?_; rintro e w2 ⟨rfl, hb⟩; have HB2 := Lib.hid (below_step HB1.out hb); have hx := HX1.out.below hb; have x0 := hx.cell (i := 0) rfl; have x1 := hx.cell (i := 1) rfl; have x2 := hx.cell (i := 2) rfl; have x3 := hx.cell (i := 3) rfl; have x4 := hx.cell (i := 4) rfl; have hb2 := HB2.out; replace y0 := pw_cell_below hb2 y0; replace y1 := pw_cell_below hb2 y1; replace y2 := pw_cell_below hb2 y2; replace y3 := pw_cell_below hb2 y3; replace z0 := pw_cell_below hb2 z0; replace z1 := pw_cell_below hb2 z1; replace z2 := pw_cell_below hb2 z2; replace z3 := pw_cell_below hb2 z3; have n0 := World.block_lt_of_cell? _ _ x0; dsimp only at n0; have n1 := World.block_lt_of_cell? _ _ y1; have n2 := World.block_lt_of_cell? _ _ z1; clear hb hx hb2))
  go_ret
  exact ⟨by first | rfl | (simp; done) | (simp [*]; done), below_alloc (below_alloc HB2.out _) _⟩
set_option maxHeartbeats 8000000 in
set_option maxRecDepth 100000 in
theorem holds_3 (A0 : Option Addr) (c0 : Nat) (l : List Evn) (e1 e2 : Int) (i j : Nat) (w : World) (hr : Kd.C k53 w A0 l.length l) (hl : l.length ≤ 9223372036854775806) (f t : Int) (hf : comK l e1 = f) (ht : comK l e2 = t) (f0 : 0 ≤ f) (hne : e1 ≠ e2) (hi : i < l.length) (hj : j < l.length) (a0 b0 : Int) (key a3 b3 : ByteArray) (ha : rd_T53 l (i : Int) = ⟨a0, e1, key, a3⟩) (hb : rd_T53 l (j : Int) = ⟨b0, e2, key, b3⟩) (h3 : a0 = 2) (h4 : b0 = 3) (t0 : 0 ≤ t) (hv : a3 = ⟨#[]⟩) :
    Calls Tryz.prog 30 #[.slice A0 l.length c0, .agg #[.int .i64 3, .int .i64 e1, .int .i64 e2, .int .i64 i, .int .i64 j]] w fun e w' => e = .returned (.bool true) ∧ Below w.heap.size w w' := by
  have HF := Lib.hid (fun u (hb : Below w.heap.size w u) => committed_any A0 c0 l e1 u (Kd.C_below hr hb) hl)
  have HT := Lib.hid (fun u (hb : Below w.heap.size w u) => committed_any A0 c0 l e2 u (Kd.C_below hr hb) hl)
  simp only [hf, ht] at HF HT
  have HR := Lib.hid hr
  have HB := Lib.hid (below_alloc (Below.refl w.heap.size w) (.cells #[.int .i64 3, .int .i64 e1, .int .i64 e2, .int .i64 (i : Int), .int .i64 (j : Int)] 32))
  have HX := Lib.hid (RowIs.new w 32 [.int .i64 3, .int .i64 e1, .int .i64 e2, .int .i64 (i : Int), .int .i64 (j : Int)])
  subst h3 h4 hv
  obtain ⟨ad, hA0, y0, y1, y2, y3⟩ := at_T53 hr (i : Int) (by omega) (by omega)
  obtain ⟨ad', hA1, z0, z1, z2, z3⟩ := at_T53 hr (j : Int) (by omega) (by omega)
  subst hA0
  obtain rfl : ad = ad' := Option.some.inj hA1
  simp only [Int.toNat_natCast, ha, hb] at y0 y1 y2 y3 z0 z1 z2 z3
  have g1 : decide (f < 0) = false := decide_eq_false (by omega)
  have g2 : decide (t < 0) = false := decide_eq_false (by omega)
  have g3 : (e1 == e2) = false := beq_eq_false_iff_ne.mpr hne
  have g4 : decide ((i : Int) < 0) = false := decide_eq_false (by omega)
  have g5 : decide ((j : Int) < 0) = false := decide_eq_false (by omega)
  have g6 : decide ((l.length : Int) ≤ (i : Int)) = false := decide_eq_false (by omega)
  have g7 : decide ((l.length : Int) ≤ (j : Int)) = false := decide_eq_false (by omega)
  clear hr ha hb hf ht hA1
  go_enter Tryz.func30, Tryz.ntmps30
  go_wp2_with (first
    | (go_at_call 60; with_reducible refine (HF.out _ HB.out).mono ?_; rintro e w1 ⟨rfl, hb⟩; have HB1 := Lib.hid (below_step HB.out hb); have hx := HX.out.below hb; have HX1 := Lib.hid hx; have x0 := hx.cell (i := 0) rfl; have x1 := hx.cell (i := 1) rfl; have x2 := hx.cell (i := 2) rfl; have x3 := hx.cell (i := 3) rfl; have x4 := hx.cell (i := 4) rfl; clear hb hx)
    | (go_at_call 60; with_reducible refine (HT.out _ HB1.out).mono ?_; rintro e w2 ⟨rfl, hb⟩; have HB2 := Lib.hid (below_step HB1.out hb); have hx := HX1.out.below hb; have x0 := hx.cell (i := 0) rfl; have x1 := hx.cell (i := 1) rfl; have x2 := hx.cell (i := 2) rfl; have x3 := hx.cell (i := 3) rfl; have x4 := hx.cell (i := 4) rfl; have hb2 := HB2.out; replace y0 := pw_cell_below hb2 y0; replace y1 := pw_cell_below hb2 y1; replace y2 := pw_cell_below hb2 y2; replace y3 := pw_cell_below hb2 y3; replace z0 := pw_cell_below hb2 z0; replace z1 := pw_cell_below hb2 z1; replace z2 := pw_cell_below hb2 z2; replace z3 := pw_cell_below hb2 z3; have n0 := World.block_lt_of_cell? _ _ x0; dsimp only at n0; have n1 := World.block_lt_of_cell? _ _ y1; have n2 := World.block_lt_of_cell? _ _ z1; clear hb hx hb2))
  go_ret
  exact ⟨by first | rfl | (simp; done) | (simp [*]; done), below_alloc (below_alloc HB2.out _) _⟩
end Go.Proofs.YtjlpjpjodhkpdaaGreatDoor
