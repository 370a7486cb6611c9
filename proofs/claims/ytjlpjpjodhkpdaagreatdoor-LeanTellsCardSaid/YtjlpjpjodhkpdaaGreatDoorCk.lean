/- lean.Check at any certificate, whatever lean.Bad answers. -/
import Derived.Test.YtjlpjpjodhkpdaaGreatDoorPvM
import Derived.Test.YtjlpjpjodhkpdaaGreatDoorRd
set_option maxHeartbeats 8000000
set_option maxRecDepth 100000
set_option linter.unusedVariables false
set_option linter.unusedSimpArgs false
namespace Go.Proofs.YtjlpjpjodhkpdaaGreatDoor
open Go.RowKit Go.Proofs.YtjlpjpjodhkpdaaGreatDoor.Q Go.Proofs.YtjlpjpjodhkpdaaGreatDoorW.PrintWords
def checkV (pv : Int) (accept : Bool) (no : Nat) (bk : Int) (nr : Nat) (bb rd : Bool) : Int :=
 if pv = 0 then (if accept then 9 else if 0 < no then 14 else if bk = 0 then (if rd then 0 else 14) else if 0 < nr then 14 else if bb then 0 else 14) else pv
theorem lnCheck_any (tenant : ByteArray) (seq : Int) (prev root : ByteArray) (count level : Int) (accept : Bool) (A2 : Option Addr) (c2 : Nat) (order : List Int) (bk bi bj : Int) (A6 : Option Addr) (c6 : Nat) (ring : List Edg) (A7 : Option Addr) (c7 : Nat) (proofs : List Prf) (top : ByteArray) (bb : Bool) (w : World) (hT : Tabs w) (h2 : Kd.C (Kd.int .i64) w A2 order.length order) (h6 : Kd.C k32 w A6 ring.length ring) (h7 : Kd.C k55 w A7 proofs.length proofs)
 (hbad : bk ≠ 0 → ∀ u, Below w.heap.size w u → Calls Tryz.prog 14 #[.slice A7 proofs.length c7, .agg #[.int .i64 bk, .int .i64 bi, .int .i64 bj]] u fun e w' => e = .returned (.bool bb) ∧ Below u.heap.size u w') :
 Calls Tryz.prog 12 #[.agg #[.string tenant, .int .i64 seq, .string prev, .string root, .int .i64 count, .int .i64 level, .bool accept, .slice A2 order.length c2, .int .i64 bk, .int .i64 bi, .int .i64 bj, .slice A6 ring.length c6, .slice A7 proofs.length c7], .string top] w fun e w' => e = .returned (.int .i64 (checkV (lnProved ⟨tenant, seq, prev, root, count, level, accept, order, bk, bi, bj, ring, proofs⟩ top) accept order.length bk ring.length bb (lnRound level proofs ring))) ∧ Below w.heap.size w w' := by
 obtain ⟨w1, hw1⟩ : ∃ w1, w1 = w.alloc (.cells #[.string tenant, .int .i64 seq, .string prev, .string root, .int .i64 count, .int .i64 level, .bool accept, .slice A2 order.length c2, .int .i64 bk, .int .i64 bi, .int .i64 bj, .slice A6 ring.length c6, .slice A7 proofs.length c7] 30) := ⟨_, rfl⟩
 have hB1 : Below w.heap.size w w1 := by rw [hw1]; exact below_alloc (Below.refl w.heap.size w) _
 have hX1 : RowIs w1 w.heap.size 30 [.string tenant, .int .i64 seq, .string prev, .string root, .int .i64 count, .int .i64 level, .bool accept, .slice A2 order.length c2, .int .i64 bk, .int .i64 bi, .int .i64 bj, .slice A6 ring.length c6, .slice A7 proofs.length c7] := by rw [hw1]; exact RowIs.new w 30 [.string tenant, .int .i64 seq, .string prev, .string root, .int .i64 count, .int .i64 level, .bool accept, .slice A2 order.length c2, .int .i64 bk, .int .i64 bi, .int .i64 bj, .slice A6 ring.length c6, .slice A7 proofs.length c7]
 have HB1 := Lib.hid hB1; have HX1 := Lib.hid hX1
 have HPV := Lib.hid (fun u (hb : Below w.heap.size w u) => lnProved_any tenant seq prev root count level accept A2 c2 order bk bi bj A6 c6 ring A7 c7 proofs top u (hT.below hb hT.size) (Kd.C_below h2 hb) (Kd.C_below h6 hb) (Kd.C_below h7 hb))
 have HSZ := Lib.hid (show lnProved ⟨tenant, seq, prev, root, count, level, accept, order, bk, bi, bj, ring, proofs⟩ top = 0 → ring.length ≤ 128 ∧ proofs.length ≤ 256 from fun h => by
  unfold lnProved at h
  split at h
  · rename_i hc
    unfold certB verB at hc
    simp only [Bool.and_eq_true] at hc
    exact ⟨of_decide_eq_true hc.2.1.2.2.2.1, of_decide_eq_true hc.2.2.1⟩
  · cases h)
 have HRD := Lib.hid (fun u (hb : Below w.heap.size w u) h1 h2' => lnRound_any tenant seq prev root count level accept A2 c2 order bk bi bj A6 c6 ring A7 c7 proofs u (Kd.C_below h6 hb) (Kd.C_below h7 hb) h1 h2')
 have HBD := Lib.hid hbad
 generalize lnProved ⟨tenant, seq, prev, root, count, level, accept, order, bk, bi, bj, ring, proofs⟩ top = pv at *
 generalize lnRound level proofs ring = rd at *
 obtain ⟨r, hr0⟩ : ∃ r, r = checkV pv accept order.length bk ring.length bb rd := ⟨_, rfl⟩
 rw [← hr0]
 unfold checkV at hr0
 have HR := Lib.hid hr0
 have x0 := hX1.cell (i := 0) rfl; have x1 := hX1.cell (i := 1) rfl; have x2 := hX1.cell (i := 2) rfl; have x3 := hX1.cell (i := 3) rfl
 clear hT h2 h6 h7 hX1 hB1 hbad hr0 x0 x1 x2 x3
 by_cases g0 : pv = 0
 obtain ⟨hs6, hs7⟩ := HSZ.out g0
 subst g0
 rotate_left
 have g0b : (pv != 0) = true := bne_iff_ne.mpr g0
 rotate_right
 cases accept
 rotate_left
 rotate_left
 rotate_left
 by_cases g1 : 0 < order.length
 have g1' : (0 : Int) < (order.length : Int) := by omega
 rotate_left
 have g1' : ¬ (0 : Int) < (order.length : Int) := by omega
 by_cases g2 : bk = 0
 subst g2
 cases rd
 rotate_left
 rotate_left
 have gb : (bk != 0) = true := bne_iff_ne.mpr g2
 by_cases g3 : 0 < ring.length
 have g3' : (0 : Int) < (ring.length : Int) := by omega
 rotate_left
 have g3' : ¬ (0 : Int) < (ring.length : Int) := by omega
 cases bb
 all_goals (have hq := HR.out; simp [*] at hq; subst hq)
 all_goals go_enter Tryz.func12, Tryz.ntmps12
 all_goals go_wp2_with (first | (go_at_call 10; rw [← hw1]; refine (HPV.out _ HB1.out).mono ?_; rintro e w2 ⟨rfl, hb⟩; have HB2 := Lib.hid (below_step HB1.out hb); have hx := HX1.out.below hb; have HX2 := Lib.hid hx; have x0 := hx.cell (i := 0) rfl; have x1 := hx.cell (i := 1) rfl; have x2 := hx.cell (i := 2) rfl; have x3 := hx.cell (i := 3) rfl; have x4 := hx.cell (i := 4) rfl; have x5 := hx.cell (i := 5) rfl; have x6 := hx.cell (i := 6) rfl; have x7 := hx.cell (i := 7) rfl; have x8 := hx.cell (i := 8) rfl; have x9 := hx.cell (i := 9) rfl; have x10 := hx.cell (i := 10) rfl; have x11 := hx.cell (i := 11) rfl; have x12 := hx.cell (i := 12) rfl; clear hb hx) | (go_at_call 37; refine (HRD.out _ HB2.out hs6 hs7).mono ?_; rintro e w3 ⟨rfl, hb⟩; have HB3 := Lib.hid (below_step HB2.out hb); clear hb) | (go_at_call 14; refine (HBD.out g2 _ HB2.out).mono ?_; rintro e w3 ⟨rfl, hb⟩; have HB3 := Lib.hid (below_step HB2.out hb); clear hb))
 all_goals go_ret
 all_goals exact ⟨by first | rfl | (simp; done) | (simp [*]; done), by first | exact HB3.out | exact HB2.out⟩
end Go.Proofs.YtjlpjpjodhkpdaaGreatDoor
