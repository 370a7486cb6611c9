/- cartoucheref15.Check at any certificate: by the document. -/
import Derived.Test.YtjlpjpjodhkpdaaGreatDoorRp
import Derived.Test.YtjlpjpjodhkpdaaGreatDoorRt2
import Derived.Test.YtjlpjpjodhkpdaaGreatDoorRt3
import Derived.Test.YtjlpjpjodhkpdaaGreatDoorCk
set_option maxHeartbeats 16000000
set_option maxRecDepth 100000
set_option linter.unusedVariables false
set_option linter.unusedSimpArgs false
namespace Go.Proofs.YtjlpjpjodhkpdaaGreatDoor
open Go.RowKit Go.Proofs.YtjlpjpjodhkpdaaGreatDoor.Q Go.Proofs.YtjlpjpjodhkpdaaGreatDoorW.PrintWords
theorem rChk_any (tenant : ByteArray) (seq : Int) (prev root : ByteArray) (count level : Int) (accept : Bool) (A2 : Option Addr) (c2 : Nat) (order : List Int) (bk bi bj : Int) (A6 : Option Addr) (c6 : Nat) (ring : List Edg) (A7 : Option Addr) (c7 : Nat) (proofs : List Prf) (top : ByteArray) (w : World) (h2 : Kd.C (Kd.int .i64) w A2 order.length order) (h6 : Kd.C k32 w A6 ring.length ring) (h7 : Kd.C k55 w A7 proofs.length proofs) :
 Calls Tryz.prog 13 #[.agg #[.string tenant, .int .i64 seq, .string prev, .string root, .int .i64 count, .int .i64 level, .bool accept, .slice A2 order.length c2, .int .i64 bk, .int .i64 bi, .int .i64 bj, .slice A6 ring.length c6, .slice A7 proofs.length c7], .string top] w fun e w' => e = .returned (.int .i64 (checkV (lnProved ⟨tenant, seq, prev, root, count, level, accept, order, bk, bi, bj, ring, proofs⟩ top) accept order.length bk ring.length (lnBad proofs bk bi bj) (lnRound level proofs ring))) ∧ Below w.heap.size w w' := by
 obtain ⟨w1, hw1⟩ : ∃ w1, w1 = w.alloc (.cells #[.string tenant, .int .i64 seq, .string prev, .string root, .int .i64 count, .int .i64 level, .bool accept, .slice A2 order.length c2, .int .i64 bk, .int .i64 bi, .int .i64 bj, .slice A6 ring.length c6, .slice A7 proofs.length c7] 30) := ⟨_, rfl⟩
 have hB1 : Below w.heap.size w w1 := by rw [hw1]; exact below_alloc (Below.refl w.heap.size w) _
 have hX1 : RowIs w1 w.heap.size 30 [.string tenant, .int .i64 seq, .string prev, .string root, .int .i64 count, .int .i64 level, .bool accept, .slice A2 order.length c2, .int .i64 bk, .int .i64 bi, .int .i64 bj, .slice A6 ring.length c6, .slice A7 proofs.length c7] := by rw [hw1]; exact RowIs.new w 30 [.string tenant, .int .i64 seq, .string prev, .string root, .int .i64 count, .int .i64 level, .bool accept, .slice A2 order.length c2, .int .i64 bk, .int .i64 bi, .int .i64 bj, .slice A6 ring.length c6, .slice A7 proofs.length c7]
 have HB1 := Lib.hid hB1; have HX1 := Lib.hid hX1
 have HPV := Lib.hid (fun u (hb : Below w.heap.size w u) => rProved_any tenant seq prev root count level accept A2 c2 order bk bi bj A6 c6 ring A7 c7 proofs top u (Kd.C_below h2 hb) (Kd.C_below h6 hb) (Kd.C_below h7 hb))
 have hsz : lnProved ⟨tenant, seq, prev, root, count, level, accept, order, bk, bi, bj, ring, proofs⟩ top = 0 → ring.length ≤ 128 ∧ proofs.length ≤ 256 := fun h => by
  unfold lnProved at h
  split at h
  · rename_i hc
    unfold certB verB at hc
    simp only [Bool.and_eq_true] at hc
    exact ⟨of_decide_eq_true hc.2.1.2.2.2.1, of_decide_eq_true hc.2.2.1⟩
  · cases h
 have HBD := Lib.hid (fun u (hb : Below w.heap.size w u) (hl : proofs.length ≤ 9223372036854775806) => rBad_any A7 c7 proofs bk bi bj u (Kd.C_below h7 hb) hl)
 have HE := Lib.hid (fun u (hb : Below w.heap.size w u) (hl : proofs.length ≤ 9223372036854775806) e0 e1 e2 e3 e4 => rEdge_any A7 c7 proofs e0 e1 e2 e3 e4 u (Kd.C_below h7 hb) hl)
 have H6 := Lib.hid (fun u (hb : Below w.heap.size w u) => Kd.C_below h6 hb)
 generalize lnProved ⟨tenant, seq, prev, root, count, level, accept, order, bk, bi, bj, ring, proofs⟩ top = pv at *
 generalize lnBad proofs bk bi bj = bb at *
 obtain ⟨r, hr0⟩ : ∃ r, r = checkV pv accept order.length bk ring.length bb (lnRound level proofs ring) := ⟨_, rfl⟩
 rw [← hr0]
 unfold checkV at hr0
 have HR := Lib.hid hr0
 clear h2 h6 h7 hX1 hB1 hr0
 by_cases g0 : pv = 0
 rotate_left
 · have g0b : (pv != 0) = true := bne_iff_ne.mpr g0
   obtain rfl : r = pv := HR.out.trans (by simp [g0])
   go_enter Tryz.func13, Tryz.ntmps13
   go_wp2_with (first | (go_at_call 11; rw [← hw1]; refine (HPV.out _ HB1.out).mono ?_; rintro e w2 ⟨rfl, hb⟩; have HB2 := Lib.hid (below_step HB1.out hb); have hx := HX1.out.below hb; have HX2 := Lib.hid hx; have x0 := hx.cell (i := 0) rfl; have x1 := hx.cell (i := 1) rfl; have x2 := hx.cell (i := 2) rfl; have x3 := hx.cell (i := 3) rfl; have x4 := hx.cell (i := 4) rfl; have x5 := hx.cell (i := 5) rfl; have x6 := hx.cell (i := 6) rfl; have x7 := hx.cell (i := 7) rfl; have x8 := hx.cell (i := 8) rfl; have x9 := hx.cell (i := 9) rfl; have x10 := hx.cell (i := 10) rfl; have x11 := hx.cell (i := 11) rfl; have x12 := hx.cell (i := 12) rfl; clear hb hx))
   go_ret
   exact ⟨by first | rfl | (simp; done) | (simp [*]; done), HB2.out⟩
 subst g0
 replace hsz := hsz rfl
 have hl7 : proofs.length ≤ 256 := hsz.2
 cases accept
 rotate_left
 · obtain rfl : r = 9 := HR.out.trans (by simp)
   go_enter Tryz.func13, Tryz.ntmps13
   go_wp2_with (first | (go_at_call 11; rw [← hw1]; refine (HPV.out _ HB1.out).mono ?_; rintro e w2 ⟨rfl, hb⟩; have HB2 := Lib.hid (below_step HB1.out hb); have hx := HX1.out.below hb; have HX2 := Lib.hid hx; have x0 := hx.cell (i := 0) rfl; have x1 := hx.cell (i := 1) rfl; have x2 := hx.cell (i := 2) rfl; have x3 := hx.cell (i := 3) rfl; have x4 := hx.cell (i := 4) rfl; have x5 := hx.cell (i := 5) rfl; have x6 := hx.cell (i := 6) rfl; have x7 := hx.cell (i := 7) rfl; have x8 := hx.cell (i := 8) rfl; have x9 := hx.cell (i := 9) rfl; have x10 := hx.cell (i := 10) rfl; have x11 := hx.cell (i := 11) rfl; have x12 := hx.cell (i := 12) rfl; clear hb hx))
   go_ret
   exact ⟨by first | rfl | (simp; done) | (simp [*]; done), HB2.out⟩
 by_cases g1 : 0 < order.length
 · obtain rfl : r = 14 := HR.out.trans (by simp [g1])
   have g1' : (0 : Int) < (order.length : Int) := by omega
   go_enter Tryz.func13, Tryz.ntmps13
   go_wp2_with (first | (go_at_call 11; rw [← hw1]; refine (HPV.out _ HB1.out).mono ?_; rintro e w2 ⟨rfl, hb⟩; have HB2 := Lib.hid (below_step HB1.out hb); have hx := HX1.out.below hb; have HX2 := Lib.hid hx; have x0 := hx.cell (i := 0) rfl; have x1 := hx.cell (i := 1) rfl; have x2 := hx.cell (i := 2) rfl; have x3 := hx.cell (i := 3) rfl; have x4 := hx.cell (i := 4) rfl; have x5 := hx.cell (i := 5) rfl; have x6 := hx.cell (i := 6) rfl; have x7 := hx.cell (i := 7) rfl; have x8 := hx.cell (i := 8) rfl; have x9 := hx.cell (i := 9) rfl; have x10 := hx.cell (i := 10) rfl; have x11 := hx.cell (i := 11) rfl; have x12 := hx.cell (i := 12) rfl; clear hb hx))
   go_ret
   exact ⟨by first | rfl | (simp; done) | (simp [*]; done), HB2.out⟩
 have g1c := g1
 have g1' : ¬ (0 : Int) < (order.length : Int) := by omega
 by_cases g2 : bk = 0
 rotate_left
 · have gb : (bk != 0) = true := bne_iff_ne.mpr g2
   by_cases g3 : 0 < ring.length
   · obtain rfl : r = 14 := HR.out.trans (by simp [g1, g2, g3])
     have g3' : decide ((0 : Int) < (ring.length : Int)) = true := decide_eq_true (by omega)
     go_enter Tryz.func13, Tryz.ntmps13
     go_wp2_with (first | (go_at_call 11; rw [← hw1]; refine (HPV.out _ HB1.out).mono ?_; rintro e w2 ⟨rfl, hb⟩; have HB2 := Lib.hid (below_step HB1.out hb); have hx := HX1.out.below hb; have HX2 := Lib.hid hx; have x0 := hx.cell (i := 0) rfl; have x1 := hx.cell (i := 1) rfl; have x2 := hx.cell (i := 2) rfl; have x3 := hx.cell (i := 3) rfl; have x4 := hx.cell (i := 4) rfl; have x5 := hx.cell (i := 5) rfl; have x6 := hx.cell (i := 6) rfl; have x7 := hx.cell (i := 7) rfl; have x8 := hx.cell (i := 8) rfl; have x9 := hx.cell (i := 9) rfl; have x10 := hx.cell (i := 10) rfl; have x11 := hx.cell (i := 11) rfl; have x12 := hx.cell (i := 12) rfl; clear hb hx) | (go_at_call 15; refine (HBD.out _ HB2.out (by omega)).mono ?_; rintro e w3 ⟨rfl, hb⟩; have HB3 := Lib.hid (below_step HB2.out hb); have hx := HX2.out.below hb; have v11 := hx.cell (i := 11) rfl; clear hb hx x0 x1 x2 x3 x4 x5 x6 x7 x8 x9 x10 x11 x12))
     go_ret
     exact ⟨by first | rfl | (simp; done) | (simp [*]; done), HB3.out⟩
   have g3' : decide ((0 : Int) < (ring.length : Int)) = false := decide_eq_false (by omega)
   have g3'' : ¬ (0 : Int) < (ring.length : Int) := by omega
   cases bb
   · obtain rfl : r = 14 := HR.out.trans (by simp [g1, g2, g3])
     go_enter Tryz.func13, Tryz.ntmps13
     go_wp2_with (first | (go_at_call 11; rw [← hw1]; refine (HPV.out _ HB1.out).mono ?_; rintro e w2 ⟨rfl, hb⟩; have HB2 := Lib.hid (below_step HB1.out hb); have hx := HX1.out.below hb; have HX2 := Lib.hid hx; have x0 := hx.cell (i := 0) rfl; have x1 := hx.cell (i := 1) rfl; have x2 := hx.cell (i := 2) rfl; have x3 := hx.cell (i := 3) rfl; have x4 := hx.cell (i := 4) rfl; have x5 := hx.cell (i := 5) rfl; have x6 := hx.cell (i := 6) rfl; have x7 := hx.cell (i := 7) rfl; have x8 := hx.cell (i := 8) rfl; have x9 := hx.cell (i := 9) rfl; have x10 := hx.cell (i := 10) rfl; have x11 := hx.cell (i := 11) rfl; have x12 := hx.cell (i := 12) rfl; clear hb hx) | (go_at_call 15; refine (HBD.out _ HB2.out (by omega)).mono ?_; rintro e w3 ⟨rfl, hb⟩; have HB3 := Lib.hid (below_step HB2.out hb); have hx := HX2.out.below hb; have v11 := hx.cell (i := 11) rfl; clear hb hx x0 x1 x2 x3 x4 x5 x6 x7 x8 x9 x10 x11 x12))
     go_ret
     exact ⟨by first | rfl | (simp; done) | (simp [*]; done), HB3.out⟩
   · obtain rfl : r = 0 := HR.out.trans (by simp [g1, g2, g3])
     go_enter Tryz.func13, Tryz.ntmps13
     go_wp2_with (first | (go_at_call 11; rw [← hw1]; refine (HPV.out _ HB1.out).mono ?_; rintro e w2 ⟨rfl, hb⟩; have HB2 := Lib.hid (below_step HB1.out hb); have hx := HX1.out.below hb; have HX2 := Lib.hid hx; have x0 := hx.cell (i := 0) rfl; have x1 := hx.cell (i := 1) rfl; have x2 := hx.cell (i := 2) rfl; have x3 := hx.cell (i := 3) rfl; have x4 := hx.cell (i := 4) rfl; have x5 := hx.cell (i := 5) rfl; have x6 := hx.cell (i := 6) rfl; have x7 := hx.cell (i := 7) rfl; have x8 := hx.cell (i := 8) rfl; have x9 := hx.cell (i := 9) rfl; have x10 := hx.cell (i := 10) rfl; have x11 := hx.cell (i := 11) rfl; have x12 := hx.cell (i := 12) rfl; clear hb hx) | (go_at_call 15; refine (HBD.out _ HB2.out (by omega)).mono ?_; rintro e w3 ⟨rfl, hb⟩; have HB3 := Lib.hid (below_step HB2.out hb); have hx := HX2.out.below hb; have v11 := hx.cell (i := 11) rfl; clear hb hx x0 x1 x2 x3 x4 x5 x6 x7 x8 x9 x10 x11 x12))
     go_ret
     exact ⟨by first | rfl | (simp; done) | (simp [*]; done), HB3.out⟩
 subst g2
 by_cases g4 : ring.length = 0
 · obtain rfl : r = 14 := HR.out.trans (by simp [g1, lnRound, g4])
   have g4b : ((ring.length : Int) == 0) = true := by rw [g4]; rfl
   clear g4
   go_enter Tryz.func13, Tryz.ntmps13
   go_wp2_with (first | (go_at_call 11; rw [← hw1]; refine (HPV.out _ HB1.out).mono ?_; rintro e w2 ⟨rfl, hb⟩; have HB2 := Lib.hid (below_step HB1.out hb); have hx := HX1.out.below hb; have HX2 := Lib.hid hx; have x0 := hx.cell (i := 0) rfl; have x1 := hx.cell (i := 1) rfl; have x2 := hx.cell (i := 2) rfl; have x3 := hx.cell (i := 3) rfl; have x4 := hx.cell (i := 4) rfl; have x5 := hx.cell (i := 5) rfl; have x6 := hx.cell (i := 6) rfl; have x7 := hx.cell (i := 7) rfl; have x8 := hx.cell (i := 8) rfl; have x9 := hx.cell (i := 9) rfl; have x10 := hx.cell (i := 10) rfl; have x11 := hx.cell (i := 11) rfl; have x12 := hx.cell (i := 12) rfl; clear hb hx))
   go_ret
   exact ⟨by first | rfl | (simp; done) | (simp [*]; done), HB2.out⟩
 have g4b : ((ring.length : Int) == 0) = false := beq_eq_false_iff_ne.mpr (by omega)
 obtain ⟨hs6, hs7⟩ := hsz
 have HE2 := Lib.hid (fun u hb => HE.out u hb (by omega))
 clear HE HBD
 go_enter Tryz.func13, Tryz.ntmps13
 go_wp2_with (first | (go_at_call 11; rw [← hw1]; refine (HPV.out _ HB1.out).mono ?_; rintro e w2 ⟨rfl, hb⟩; have HB2 := Lib.hid (below_step HB1.out hb); have hx := HX1.out.below hb; have HX2 := Lib.hid hx; have x0 := hx.cell (i := 0) rfl; have x1 := hx.cell (i := 1) rfl; have x2 := hx.cell (i := 2) rfl; have x3 := hx.cell (i := 3) rfl; have x4 := hx.cell (i := 4) rfl; have x5 := hx.cell (i := 5) rfl; have x6 := hx.cell (i := 6) rfl; have x7 := hx.cell (i := 7) rfl; have x8 := hx.cell (i := 8) rfl; have x9 := hx.cell (i := 9) rfl; have x10 := hx.cell (i := 10) rfl; have x11 := hx.cell (i := 11) rfl; have x12 := hx.cell (i := 12) rfl; clear hb hx))
 clear x0 x1 x2 x3 x4 x5 x6 x7 x8 x9 x10 x11 x12 g1' g1
 go_loopw [8] (fun x u => ∃ k : Nat, k ≤ ring.length ∧ x = .int .i64 (k : Int) ∧ Hid (ringFrom level proofs ring 0 ring.length = ringFrom level proofs ring k (ring.length - k)) ∧ Hid (Below w2.heap.size w2 u)) (fun x _ => ring.length + 1 - (intOf x).toNat)
 case atStart => exact ⟨0, by omega, rfl, Lib.hid rfl, Lib.hid (Below.refl _ _)⟩
 case round =>
  obtain ⟨k, hk, rfl, HL, HBr⟩ := hrel
  by_cases hc : k < ring.length
  · have hlt : decide ((k : Int) < (ring.length : Int)) = true := by simp; omega
    have hlt2 : decide (k < ring.length) = true := by simp; omega
    have HK := Lib.hid (H6.out wr (below_step HB2.out HBr.out))
    obtain ⟨ad, rfl, z0, z1, z2, z3, z4⟩ := at_T32 HK.out (0 : Int) (by omega) (by omega)
    have hj := next_lt ring.length k hc
    have hd := HL.out
    rw [show ring.length - k = (ring.length - (k + 1)) + 1 by omega, ringFrom] at hd
    have HD := Lib.hid hd
    clear hd HL
    have ez : ad.add ((0 : Int).toNat * 5) = ad := rfl
    rw [ez] at z0 z1 z2 z3 z4
    obtain ⟨ad', hae, y0, y1, y2, y3, y4⟩ := at_T32 HK.out (k : Int) (by omega) (by omega)
    cases hae
    rw [Int.toNat_natCast] at y0 y1 y2 y3 y4
    have hi0 : ∃ i, i = rd_T32 ring (0 : Int) := ⟨_, rfl⟩
    have hf0 : ∃ f, f = rd_T32 ring (nextI ring.length k : Nat) := ⟨_, rfl⟩
    obtain ⟨i, hi0⟩ := hi0
    obtain ⟨f, hf0⟩ := hf0
    rw [← hi0] at z0 z1 z2 z3 z4
    rw [← hf0] at HD
    have HC := Lib.hid (fun h : ¬ k + 1 < ring.length => show f = i by rw [hf0, hi0, show nextI ring.length k = 0 from if_pos (by omega)]; rfl)
    have HN := Lib.hid (fun h : k + 1 < ring.length => show f = rd_T32 ring ((k + 1 : Nat) : Int) by rw [hf0, show nextI ring.length k = k + 1 from if_neg (by omega)])
    clear hi0 hf0 ez
    generalize rd_T32 ring (k : Int) = e at *
    obtain ⟨i0, i1, i2, i3, i4⟩ := i
    obtain ⟨e0, e1, e2, e3, e4⟩ := e
    obtain ⟨f0, f1, f2, f3, f4⟩ := f
    dsimp only at z0 z1 z2 z3 z4 y0 y1 y2 y3 y4
    have HEk := Lib.hid (fun u hb => HE2.out u hb e0 e1 e2 e3 e4)
    obtain ⟨jb, hjb⟩ : ∃ jb, jb = joinB level proofs ⟨e0, e1, e2, e3, e4⟩ ⟨f0, f1, f2, f3, f4⟩ := ⟨_, rfl⟩
    rw [← hjb] at HD
    unfold joinB at hjb
    dsimp only at hjb HEk
    generalize lnEdge proofs ⟨e0, e1, e2, e3, e4⟩ = v at *
    have HJ := Lib.hid hjb
    have HWb := Lib.hid (below_alloc (Below.refl wr.heap.size wr) (.cells #[.int .i64 f0, .int .i64 f1, .int .i64 f2, .int .i64 f3, .int .i64 f4] 32))
    have HFb := Lib.hid (RowIs.new wr 32 [.int .i64 f0, .int .i64 f1, .int .i64 f2, .int .i64 f3, .int .i64 f4])
    have HXb := Lib.hid (HX2.out.below (below_step HBr.out HWb.out))
    have HYb := Lib.hid (show _ ∧ _ ∧ _ ∧ _ ∧ _ from ⟨pw_cell_below HWb.out y0, pw_cell_below HWb.out y1, pw_cell_below HWb.out y2, pw_cell_below HWb.out y3, pw_cell_below HWb.out y4⟩)
    clear y0 y1 y2 y3 y4 hjb HE2 hj
    by_cases hn : k + 1 < ring.length
    have hn2 : decide ((k : Int) + 1 < (ring.length : Int)) = true := decide_eq_true (by omega)
    have WM : wrap64 ((k : Int) + 1) = (k : Int) + 1 := by unfold wrap64; omega
    have HAw := Lib.hid (below_alloc (Below.refl wr.heap.size wr) (.cells #[.int .i64 i0, .int .i64 i1, .int .i64 i2, .int .i64 i3, .int .i64 i4] 32))
    obtain ⟨ad', hae, b0, b1, b2, b3, b4⟩ := at_T32 (Kd.C_below HK.out HAw.out) ((k + 1 : Nat) : Int) (by omega) (by omega)
    cases hae
    rw [← HN.out hn] at b0 b1 b2 b3 b4
    simp only [Int.toNat_natCast] at b0 b1 b2 b3 b4
    clear HC HN
    go_wp2
    clear b0 b1 b2 b3 b4 z0 z1 z2 z3 z4 hn2 WM hn
    rotate_left
    have hn2 : decide ((k : Int) + 1 < (ring.length : Int)) = false := decide_eq_false (by omega)
    have WM : wrap64 ((k : Int) + 1) = (k : Int) + 1 := by unfold wrap64; omega
    injection HC.out hn with q0 q1 q2 q3 q4
    subst q0 q1 q2 q3 q4
    clear HC HN
    go_wp2
    clear z0 z1 z2 z3 z4 hn2 WM hn
    all_goals
     obtain ⟨wb, hwb⟩ : ∃ wb, wb = wr.alloc (.cells #[.int .i64 f0, .int .i64 f1, .int .i64 f2, .int .i64 f3, .int .i64 f4] 32) := ⟨_, rfl⟩
     have htb : wr.heap.size = wr.heap.size := rfl
     rw [← hwb] at HWb HFb HXb HYb ⊢
     refine Fam.wp_region_fam [6] (fun m u => Below wb.heap.size wb u) (by kernel_rfl) (by kernel_rfl) (Below.refl wb.heap.size wb).drew ?_
     repeat (first | (refine Fam.pure_ (by rfl) (by rfl) rfl (fun K hK => ?_); go_big_quiet_op; refine hK _ ?_; clear hK K) | (refine Fam.read_ (.slice A7 proofs.length c7) (by rfl) (by rfl) (fun m' _ u hu => ?_) ?_; (· have hx := (HXb.out.below hu).cell (i := 12) rfl; clear hu; go_simp); simp only [Act.put, List.setIfInBounds_toArray, List.set_cons_zero, List.set_cons_succ]) | (refine Fam.read_ (.agg #[.int .i64 e0, .int .i64 e1, .int .i64 e2, .int .i64 e3, .int .i64 e4]) (by rfl) (by rfl) (fun m' _ u hu => ?_) ?_; (· have hy0 := pw_cell_below hu HYb.out.1; have hy1 := pw_cell_below hu HYb.out.2.1; have hy2 := pw_cell_below hu HYb.out.2.2.1; have hy3 := pw_cell_below hu HYb.out.2.2.2.1; have hy4 := pw_cell_below hu HYb.out.2.2.2.2; clear hu; go_simp); simp only [Act.put, List.setIfInBounds_toArray, List.set_cons_zero, List.set_cons_succ]) | (refine Fam.effCall_ (.bool v) 17 ?_ (by rfl) (by rfl) (fun w => ?_) (fun u hu => ?_) ?_; rotate_left; (· go_simp; rfl); (· exact (HEk.out u (below_step (below_step (below_step HB2.out HBr.out) HWb.out) hu)).mono fun e u' ⟨he, hb⟩ => ⟨he, hu.trans (hb.mono hu.size)⟩); simp only [Act.put, List.setIfInBounds_toArray, List.set_cons_zero, List.set_cons_succ]))
     refine Fam.nil_ ?_
     intro w5 h5
     have HW5 := Lib.hid (below_step HWb.out h5)
     have HFc := Lib.hid (HFb.out.below h5)
     have HXc := Lib.hid (HXb.out.below h5)
     have HYc := Lib.hid (show _ ∧ _ ∧ _ ∧ _ ∧ _ from ⟨pw_cell_below h5 HYb.out.1, pw_cell_below h5 HYb.out.2.1, pw_cell_below h5 HYb.out.2.2.1, pw_cell_below h5 HYb.out.2.2.2.1, pw_cell_below h5 HYb.out.2.2.2.2⟩)
     clear HWb HFb HXb HYb h5 htb
     cases v
     rotate_left
     rcases int_ways e2 f1 with ⟨rfl, k8, k9⟩ | ⟨h6, h7, h8, h9, h10, h11⟩
     rcases int_ways level 2 with ⟨rfl, j8, j9⟩ | ⟨g6, g7, g8, g9, g10, g11⟩
     rcases int_ways e0 3 with ⟨rfl, m8, m9⟩ | ⟨m6, m7, m8, m9, m10, m11⟩
     rcases int_ways f0 3 with ⟨rfl, n8, n9⟩ | ⟨n6, n7, n8, n9, n10, n11⟩
     all_goals (have hq := HJ.out; simp [*] at hq; subst hq)
     all_goals go_wp2
     all_goals refine Fam.wp_region_fam [] (fun m u => Below w5.heap.size w5 u) (by kernel_rfl) (by kernel_rfl) (Below.refl w5.heap.size w5).drew ?_
     all_goals repeat (first | (refine fam_off (by rfl) (by rfl) ?_; simp only [Act.put, List.setIfInBounds_toArray, List.set_cons_zero, List.set_cons_succ]) | (refine Fam.pure_ (by rfl) (by rfl) rfl (fun K hK => ?_); go_big_quiet_op; refine hK _ ?_; clear hK K) | (refine Fam.read_ (.int .i64 e2) (by rfl) (by rfl) (fun m' _ u hu => ?_) ?_; (· have hx := pw_cell_below hu HYc.out.2.2.1; clear hu; go_simp); simp only [Act.put, List.setIfInBounds_toArray, List.set_cons_zero, List.set_cons_succ]) | (refine Fam.read_ (.int .i64 f1) (by rfl) (by rfl) (fun m' _ u hu => ?_) ?_; (· have hx := (HFc.out.below hu).cell (i := 1) rfl; clear hu; go_simp); simp only [Act.put, List.setIfInBounds_toArray, List.set_cons_zero, List.set_cons_succ]) | (refine Fam.read_ (.int .i64 e2) (by rfl) (by rfl) (fun m' _ u hu => ?_) ?_; (· have hx := (HFc.out.below hu).cell (i := 1) rfl; clear hu; go_simp); simp only [Act.put, List.setIfInBounds_toArray, List.set_cons_zero, List.set_cons_succ]) | (refine Fam.read_ (.int .i64 level) (by rfl) (by rfl) (fun m' _ u hu => ?_) ?_; (· have hx := (HXc.out.below hu).cell (i := 5) rfl; clear hu; go_simp); simp only [Act.put, List.setIfInBounds_toArray, List.set_cons_zero, List.set_cons_succ]) | (refine Fam.read_ (.int .i64 2) (by rfl) (by rfl) (fun m' _ u hu => ?_) ?_; (· have hx := (HXc.out.below hu).cell (i := 5) rfl; clear hu; go_simp); simp only [Act.put, List.setIfInBounds_toArray, List.set_cons_zero, List.set_cons_succ]) | (refine Fam.read_ (.int .i64 e0) (by rfl) (by rfl) (fun m' _ u hu => ?_) ?_; (· have hx := pw_cell_below hu HYc.out.1; clear hu; go_simp); simp only [Act.put, List.setIfInBounds_toArray, List.set_cons_zero, List.set_cons_succ]) | (refine Fam.read_ (.int .i64 3) (by rfl) (by rfl) (fun m' _ u hu => ?_) ?_; (· have hx := pw_cell_below hu HYc.out.1; clear hu; go_simp); simp only [Act.put, List.setIfInBounds_toArray, List.set_cons_zero, List.set_cons_succ]) | (refine Fam.read_ (.int .i64 f0) (by rfl) (by rfl) (fun m' _ u hu => ?_) ?_; (· have hx := (HFc.out.below hu).cell (i := 0) rfl; clear hu; go_simp); simp only [Act.put, List.setIfInBounds_toArray, List.set_cons_zero, List.set_cons_succ]) | (refine Fam.read_ (.int .i64 3) (by rfl) (by rfl) (fun m' _ u hu => ?_) ?_; (· have hx := (HFc.out.below hu).cell (i := 0) rfl; clear hu; go_simp); simp only [Act.put, List.setIfInBounds_toArray, List.set_cons_zero, List.set_cons_succ]))
     all_goals refine Fam.nil_ ?_
     all_goals intro w6 h6'
     all_goals first
      | (have hrd : lnRound level proofs ring = false := (by unfold lnRound; rw [HD.out]; rfl)
         obtain rfl : r = 14 := HR.out.trans (by simp [g1c, hrd])
         go_wp2
         go_ret
         exact ⟨by first | rfl | (simp; done) | (simp [*]; done), below_step (below_step (below_step HB2.out HBr.out) HW5.out) h6'⟩
         done)
      | (have hrd : lnRound 2 proofs ring = false := (by unfold lnRound; rw [HD.out]; rfl)
         obtain rfl : r = 14 := HR.out.trans (by simp [g1c, hrd])
         go_wp2
         go_ret
         exact ⟨by first | rfl | (simp; done) | (simp [*]; done), below_step (below_step (below_step HB2.out HBr.out) HW5.out) h6'⟩
         done)
      | (go_wp2
         go_roundw
         case rel => exact ⟨k + 1, by omega, by go_num, Lib.hid (by rw [HD.out]; rfl), Lib.hid (below_step HBr.out (below_step HW5.out h6'))⟩
         case measure => simp [intOf]; omega)
  · have hlt : decide ((k : Int) < (ring.length : Int)) = false := by simp; omega
    have hlt2 : decide (k < ring.length) = false := by simp; omega
    have hrd : lnRound level proofs ring = true := by
     unfold lnRound
     rw [HL.out, show ring.length - k = 0 by omega, decide_eq_true (by omega)]
     rfl
    obtain rfl : r = 0 := HR.out.trans (by simp [g1c, hrd])
    go_wp2
    go_ret
    exact ⟨by first | rfl | (simp; done) | (simp [*]; done), below_step HB2.out HBr.out⟩
end Go.Proofs.YtjlpjpjodhkpdaaGreatDoor
