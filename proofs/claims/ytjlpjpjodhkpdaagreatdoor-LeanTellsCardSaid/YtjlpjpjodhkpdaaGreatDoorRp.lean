/- cartoucheref15.Proved at any certificate: are all events proved? By the document. -/
import Derived.Test.YtjlpjpjodhkpdaaGreatDoorRm
import Derived.Test.YtjlpjpjodhkpdaaGreatDoorRcM
set_option maxHeartbeats 16000000
set_option maxRecDepth 100000
set_option linter.unusedVariables false
set_option linter.unusedSimpArgs false
namespace Go.Proofs.YtjlpjpjodhkpdaaGreatDoor
open Go.RowKit Go.Proofs.YtjlpjpjodhkpdaaGreatDoor.Q Go.Proofs.YtjlpjpjodhkpdaaGreatDoorW.PrintWords
def lastOf (l : List Prf) : Nat → Int
 | 0 => -1
 | k + 1 => (rd_T55 l (k : Int)).f0
theorem rProved_any (tenant : ByteArray) (seq : Int) (prev root : ByteArray) (count level : Int) (accept : Bool) (A2 : Option Addr) (c2 : Nat) (order : List Int) (bk bi bj : Int) (A6 : Option Addr) (c6 : Nat) (ring : List Edg) (A7 : Option Addr) (c7 : Nat) (proofs : List Prf) (top : ByteArray) (w : World) (h2 : Kd.C (Kd.int .i64) w A2 order.length order) (h6 : Kd.C k32 w A6 ring.length ring) (h7 : Kd.C k55 w A7 proofs.length proofs) :
 Calls Tryz.prog 11 #[.agg #[.string tenant, .int .i64 seq, .string prev, .string root, .int .i64 count, .int .i64 level, .bool accept, .slice A2 order.length c2, .int .i64 bk, .int .i64 bi, .int .i64 bj, .slice A6 ring.length c6, .slice A7 proofs.length c7], .string top] w fun e w' => e = .returned (.int .i64 (lnProved ⟨tenant, seq, prev, root, count, level, accept, order, bk, bi, bj, ring, proofs⟩ top)) ∧ Below w.heap.size w w' := by
 obtain ⟨w1, hw1⟩ : ∃ w1, w1 = w.alloc (.cells #[.string tenant, .int .i64 seq, .string prev, .string root, .int .i64 count, .int .i64 level, .bool accept, .slice A2 order.length c2, .int .i64 bk, .int .i64 bi, .int .i64 bj, .slice A6 ring.length c6, .slice A7 proofs.length c7] 30) := ⟨_, rfl⟩
 have hB1 : Below w.heap.size w w1 := by rw [hw1]; exact below_alloc (Below.refl w.heap.size w) _
 have hX1 : RowIs w1 w.heap.size 30 [.string tenant, .int .i64 seq, .string prev, .string root, .int .i64 count, .int .i64 level, .bool accept, .slice A2 order.length c2, .int .i64 bk, .int .i64 bi, .int .i64 bj, .slice A6 ring.length c6, .slice A7 proofs.length c7] := by rw [hw1]; exact RowIs.new w 30 [.string tenant, .int .i64 seq, .string prev, .string root, .int .i64 count, .int .i64 level, .bool accept, .slice A2 order.length c2, .int .i64 bk, .int .i64 bi, .int .i64 bj, .slice A6 ring.length c6, .slice A7 proofs.length c7]
 have HB1 := Lib.hid hB1; have HX1 := Lib.hid hX1
 have HM := Lib.hid (fun u (hb : Below w.heap.size w u) => rMay_any tenant seq prev root count level accept A2 c2 order bk bi bj A6 c6 ring A7 c7 proofs u (Kd.C_below h2 hb) (Kd.C_below h6 hb) (Kd.C_below h7 hb))
 have HP := Lib.hid (fun u (hb : Below w.heap.size w u) => Kd.C_below h7 hb)
 obtain ⟨r, hr0⟩ : ∃ r, r = lnProved ⟨tenant, seq, prev, root, count, level, accept, order, bk, bi, bj, ring, proofs⟩ top := ⟨_, rfl⟩
 rw [← hr0]
 unfold lnProved at hr0
 dsimp only [-dreduceIte] at hr0
 have HA := Lib.hid (show certB ⟨tenant, seq, prev, root, count, level, accept, order, bk, bi, bj, ring, proofs⟩ = true → proofs.length ≤ 256 ∧ ∀ p ∈ proofs, prfB p = true from fun h => by
  unfold certB at h
  simp only [Bool.and_eq_true] at h
  exact ⟨of_decide_eq_true h.2.2.1, List.all_eq_true.1 h.2.2.2⟩)
 generalize certB ⟨tenant, seq, prev, root, count, level, accept, order, bk, bi, bj, ring, proofs⟩ = b at *
 clear h2 h6 h7 hX1 hB1
 cases b
 · simp only [Bool.false_eq_true, if_false] at hr0
   subst hr0
   go_enter Tryz.func11, Tryz.ntmps11
   go_wp2_with (go_at_call 35; rw [← hw1]; refine (HM.out _ HB1.out).mono ?_; rintro e w2 ⟨rfl, hb⟩; have HB2 := Lib.hid (below_step HB1.out hb); clear hb)
   go_ret
   exact ⟨rfl, HB2.out⟩
 · simp only [if_true] at hr0
   by_cases hrt : root = top
   · subst hrt
     rw [if_pos rfl] at hr0
     have HR := Lib.hid hr0
     clear hr0
     obtain ⟨hn, hall⟩ := HA.out rfl
     have HALL := Lib.hid hall
     clear hall HA
     go_enter Tryz.func11, Tryz.ntmps11
     go_wp2_with (go_at_call 35; rw [← hw1]; refine (HM.out _ HB1.out).mono ?_; rintro e w2 ⟨rfl, hb⟩; have HB2 := Lib.hid hb; have hx := HX1.out.below hb; have x3 := hx.cell (i := 3) rfl; have x6 := hx.cell (i := 12) rfl; clear hb hx)
     clear x3 x6
     go_loopw [6] (fun x u => ∃ k : Nat, k ≤ proofs.length ∧ x = .int .i64 (k : Int) ∧ Hid (prLoop root count (-1) proofs = prLoop root count (lastOf proofs k) (proofs.drop k)) ∧ Below w1.heap.size w1 u) (fun x _ => proofs.length + 1 - (intOf x).toNat)
     case atStart => exact ⟨0, by omega, rfl, Lib.hid rfl, HB2.out⟩
     case round =>
      clear HB2
      obtain ⟨k, hk, rfl, HL, hB⟩ := hrel
      have x12 := (HX1.out.below hB).cell (i := 12) rfl
      by_cases hc : k < proofs.length
      · obtain ⟨ad, A5, c5, rfl, y0, y1, y2, y3, y4, y5, l5, C5⟩ := at_T55 (HP.out wr (below_step HB1.out hB)) (k : Int) (by omega) (by omega)
        simp only [Int.toNat_natCast] at y0 y1 y2 y3 y4 y5
        have hlt : decide ((k : Int) < (proofs.length : Int)) = true := by simp; omega
        have hlt2 : decide (k < proofs.length) = true := by simp; omega
        have hpb := HALL.out _ (rdP_mem proofs k hc)
        have hd := HL.out
        rw [drop_P proofs k hc, prLoop_cons] at hd
        have hchk : ∀ p : Prf, chkP root count p = checkR root count p.f0 (evBytes p.f1) p.f2 := fun _ => rfl
        rw [hchk] at hd
        have HN := Lib.hid (show lastOf proofs (k + 1) = (rd_T55 proofs (k : Int)).f0 from rfl)
        generalize rd_T55 proofs (k : Int) = p at *
        obtain ⟨x0, ⟨x1, x2, x3, x4⟩, x5⟩ := p
        dsimp only at *
        unfold prfB at hpb
        simp only [Bool.and_eq_true, decide_eq_true_eq, sumsB, List.all_eq_true] at hpb
        obtain ⟨hpl, hev, h12, h32⟩ := hpb
        have hpos : (-1 : Int) < x0 := by unfold placeB at hpl; have := of_decide_eq_true hpl; omega
        have hsz := evBytes_size _ hev
        have hok := hev
        rw [evB_eq] at hok
        have HEB := Lib.hid (fun u => cartoucheref06_Bytes.calls 9 x1 x2 x3 x4 _ _ u (rbytes_ok ⟨x1, x2, x3, x4⟩ (of_decide_eq_true hok)))
        have HCK := Lib.hid (fun u (hc : Kd.string.C u A5 x5.length x5) => rCheck_any root count x0 (evBytes ⟨x1, x2, x3, x4⟩) A5 c5 x5 u (by omega) h12 h32 hc l5)
        generalize checkR root count x0 (evBytes ⟨x1, x2, x3, x4⟩) x5 = ck at *
        generalize evBytes ⟨x1, x2, x3, x4⟩ = s at *
        have HC5 := Lib.hid C5; have HD := Lib.hid hd; have HBr := Lib.hid hB
        have xc4 := (HX1.out.below HBr.out).cell (i := 4) rfl
        have HPB := Lib.hid (below_alloc (Below.refl wr.heap.size wr) (.cells #[.int .i64 x0, .int .i64 x1, .int .i64 x2, .string x3, .string x4, .slice A5 x5.length c5] 55))
        have HPX := Lib.hid (RowIs.new wr 55 [.int .i64 x0, .int .i64 x1, .int .i64 x2, .string x3, .string x4, .slice A5 x5.length c5])
        clear hchk hpl hev hok hsz C5 hd hB h12 h32 HL l5
        have c12 := ((HX1.out.below HBr.out).alloc (.cells #[.int .i64 x0, .int .i64 x1, .int .i64 x2, .string x3, .string x4, .slice A5 x5.length c5] 55)).cell (i := 12) rfl
        have c0 := HPX.out.cell (i := 0) rfl
        rcases Nat.eq_zero_or_pos k with hk0 | hk0
        · rw [show lastOf proofs k = -1 by rw [hk0]; rfl] at HD
          have hkd : decide ((0 : Int) < (k : Int)) = false := by rw [hk0]; rfl
          have hkd2 : decide (0 < k) = false := by rw [hk0]; rfl
          clear hk0
          by_cases g2 : ck = 0
          · subst g2
            have hh : prLoop root count (-1) proofs = prLoop root count x0 (proofs.drop (k + 1)) := HD.out.trans (by rw [decide_eq_true hpos]; rfl)
            have HH := Lib.hid hh
            clear hh HD
            go_wp2
            clear y0 y1 y2 y3 y4 y5 x12
            go_quiet (fail)
            clear c12 c0
            go_wp2_with (first | (go_at_call 23; refine (HEB.out _).mono ?_; rintro e w4 ⟨rfl, hb⟩; have HB4 := Lib.hid (below_step (pw_below_drewN HPB.out _) hb); have hp := (HPX.out.drewN _).below hb; have p0 := hp.cell (i := 0) rfl; have p5 := hp.cell (i := 5) rfl; have q4 := pw_cell_below HB4.out xc4; clear hb hp) | (go_at_call 36; refine (HCK.out _ (Kd.C_below HC5.out HB4.out)).mono ?_; rintro e w5 ⟨rfl, hb⟩; have HB5 := Lib.hid (below_step HB4.out hb); clear hb))
            go_roundw
            case rel => exact ⟨k + 1, by omega, by go_num, Lib.hid (by rw [HN.out]; exact HH.out), below_step HBr.out HB5.out⟩
            case measure => simp [intOf]; omega
          · have hh : prLoop root count (-1) proofs = false := HD.out.trans (by rw [decide_eq_true hpos, decide_eq_false g2]; rfl)
            obtain rfl : r = 14 := HR.out.trans (by rw [hh]; rfl)
            have g2b : (ck != 0) = true := bne_iff_ne.mpr g2
            clear HD hh
            go_wp2
            clear y0 y1 y2 y3 y4 y5 x12
            go_quiet (fail)
            clear c12 c0
            go_wp2_with (first | (go_at_call 23; refine (HEB.out _).mono ?_; rintro e w4 ⟨rfl, hb⟩; have HB4 := Lib.hid (below_step (pw_below_drewN HPB.out _) hb); have hp := (HPX.out.drewN _).below hb; have p0 := hp.cell (i := 0) rfl; have p5 := hp.cell (i := 5) rfl; have q4 := pw_cell_below HB4.out xc4; clear hb hp) | (go_at_call 36; refine (HCK.out _ (Kd.C_below HC5.out HB4.out)).mono ?_; rintro e w5 ⟨rfl, hb⟩; have HB5 := Lib.hid (below_step HB4.out hb); clear hb))
            go_ret
            exact ⟨rfl, below_step (below_step HB1.out HBr.out) HB5.out⟩
        obtain ⟨m, hm⟩ : ∃ m, k = m + 1 := ⟨k - 1, by omega⟩
        rw [show lastOf proofs k = (rd_T55 proofs (m : Int)).f0 by rw [hm]; rfl] at HD
        obtain ⟨ad2, B5, d5, hA, u0, u1, u2, u3, u4, u5, m5, D5⟩ := at_T55 (HP.out wr (below_step HB1.out HBr.out)) (m : Int) (by omega) (by omega)
        obtain rfl : ad = ad2 := Option.some.inj hA
        rw [Int.toNat_natCast] at u0
        generalize (rd_T55 proofs (m : Int)).f0 = z at *
        have WM : IntKind.i64.wrap ((k : Int) - 1) = (m : Int) := by first | (rw [IntKind.wrap_i64]; unfold wrap64; omega) | (rw [IntKind.wrap_i64]; omega) | (show wrap64 _ = _; unfold wrap64; omega)
        have hkd : decide ((0 : Int) < (k : Int)) = true := decide_eq_true (by omega)
        have hkd2 : decide (0 < k) = true := decide_eq_true (by omega)
        have hml : m < proofs.length := by omega
        have cu := pw_cell_below HPB.out u0
        clear hA u1 u2 u3 u4 u5 m5 D5 hk0 hm
        by_cases g1 : x0 ≤ z
        · have hh : prLoop root count (-1) proofs = false := HD.out.trans (by rw [decide_eq_false (by omega)]; rfl)
          obtain rfl : r = 14 := HR.out.trans (by rw [hh]; rfl)
          clear HD hh
          go_wp2
          clear y0 y1 y2 y3 y4 y5 x12 u0
          go_quiet (fail)
          clear c12 c0 cu
          go_wp2
          go_ret
          exact ⟨by first | rfl | (simp; done), below_step (below_step HB1.out HBr.out) (pw_below_drewN HPB.out _)⟩
        have g1d : decide (x0 ≤ z) = false := decide_eq_false g1
        by_cases g2 : ck = 0
        · subst g2
          have hh : prLoop root count (-1) proofs = prLoop root count x0 (proofs.drop (k + 1)) := HD.out.trans (by rw [decide_eq_true (show z < x0 by omega)]; rfl)
          have HH := Lib.hid hh
          clear hh HD
          go_wp2
          clear y0 y1 y2 y3 y4 y5 x12 u0
          go_quiet (fail)
          clear c12 c0 cu
          go_wp2_with (first | (go_at_call 23; refine (HEB.out _).mono ?_; rintro e w4 ⟨rfl, hb⟩; have HB4 := Lib.hid (below_step (pw_below_drewN HPB.out _) hb); have hp := (HPX.out.drewN _).below hb; have p0 := hp.cell (i := 0) rfl; have p5 := hp.cell (i := 5) rfl; have q4 := pw_cell_below HB4.out xc4; clear hb hp) | (go_at_call 36; refine (HCK.out _ (Kd.C_below HC5.out HB4.out)).mono ?_; rintro e w5 ⟨rfl, hb⟩; have HB5 := Lib.hid (below_step HB4.out hb); clear hb))
          go_roundw
          case rel => exact ⟨k + 1, by omega, by go_num, Lib.hid (by rw [HN.out]; exact HH.out), below_step HBr.out HB5.out⟩
          case measure => simp [intOf]; omega
        · have hh : prLoop root count (-1) proofs = false := HD.out.trans (by rw [decide_eq_true (show z < x0 by omega), decide_eq_false g2]; rfl)
          obtain rfl : r = 14 := HR.out.trans (by rw [hh]; rfl)
          have g2b : (ck != 0) = true := bne_iff_ne.mpr g2
          clear HD hh
          go_wp2
          clear y0 y1 y2 y3 y4 y5 x12 u0
          go_quiet (fail)
          clear c12 c0 cu
          go_wp2_with (first | (go_at_call 23; refine (HEB.out _).mono ?_; rintro e w4 ⟨rfl, hb⟩; have HB4 := Lib.hid (below_step (pw_below_drewN HPB.out _) hb); have hp := (HPX.out.drewN _).below hb; have p0 := hp.cell (i := 0) rfl; have p5 := hp.cell (i := 5) rfl; have q4 := pw_cell_below HB4.out xc4; clear hb hp) | (go_at_call 36; refine (HCK.out _ (Kd.C_below HC5.out HB4.out)).mono ?_; rintro e w5 ⟨rfl, hb⟩; have HB5 := Lib.hid (below_step HB4.out hb); clear hb))
          go_ret
          exact ⟨rfl, below_step (below_step HB1.out HBr.out) HB5.out⟩
      · have e : k = proofs.length := by omega
        have hlt : decide ((k : Int) < (proofs.length : Int)) = false := by simp; omega
        have hlt2 : decide (k < proofs.length) = false := by simp; omega
        have hh : prLoop root count (-1) proofs = true := HL.out.trans (by rw [e, List.drop_length]; rfl)
        obtain rfl : r = 0 := HR.out.trans (by rw [hh]; rfl)
        go_wp2
        go_ret
        exact ⟨rfl, below_step HB1.out hB⟩
   · rw [if_neg hrt] at hr0
     subst hr0
     have t1 := ba_list_ne hrt
     have t2 : (root.toList == top.toList) = false := by rw [ba_list]; exact decide_eq_false hrt
     go_enter Tryz.func11, Tryz.ntmps11
     go_wp2_with (go_at_call 35; rw [← hw1]; refine (HM.out _ HB1.out).mono ?_; rintro e w2 ⟨rfl, hb⟩; have HB2 := Lib.hid (below_step HB1.out hb); have x3 := (HX1.out.below hb).cell (i := 3) rfl; clear hb)
     go_ret
     exact ⟨rfl, HB2.out⟩
end Go.Proofs.YtjlpjpjodhkpdaaGreatDoor
