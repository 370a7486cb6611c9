/- The law LeanRoots, walked: a certificate is taken against its own root alone. -/
import Derived.Test.YtjlpjpjodhkpdaaGreatDoorShW
set_option linter.unusedVariables false
set_option linter.unusedSimpArgs false
namespace Go.Proofs.YtjlpjpjodhkpdaaGreatDoor
open Go.RowKit Go.Proofs.YtjlpjpjodhkpdaaGreatDoor.Q Go.Proofs.YtjlpjpjodhkpdaaGreatDoorW.PrintWords

set_option maxHeartbeats 8000000 in
set_option maxRecDepth 100000 in
theorem lnCheck_other (tenant : ByteArray) (seq : Int) (prev root : ByteArray) (count level : Int) (accept : Bool) (A2 : Option Addr) (c2 : Nat) (order : List Int) (bk bi bj : Int) (A6 : Option Addr) (c6 : Nat) (ring : List Edg) (A7 : Option Addr) (c7 : Nat) (proofs : List Prf) (top : ByteArray) (hrt : root ≠ top) (pv : Int) (w : World) (hT : Tabs w) (h2 : Kd.C (Kd.int .i64) w A2 order.length order) (h6 : Kd.C k32 w A6 ring.length ring) (h7 : Kd.C k55 w A7 proofs.length proofs) (hpv : lnProved ⟨tenant, seq, prev, root, count, level, accept, order, bk, bi, bj, ring, proofs⟩ top = pv) (hp0 : pv ≠ 0) :
    Calls Tryz.prog 12 #[.agg #[.string tenant, .int .i64 seq, .string prev, .string root, .int .i64 count, .int .i64 level, .bool accept, .slice A2 order.length c2, .int .i64 bk, .int .i64 bi, .int .i64 bj, .slice A6 ring.length c6, .slice A7 proofs.length c7], .string top] w fun e w' => e = .returned (.int .i64 pv) ∧ Below w.heap.size w w' := by
  obtain ⟨w1, hw1⟩ : ∃ w1, w1 = w.alloc (.cells #[.string tenant, .int .i64 seq, .string prev, .string root, .int .i64 count, .int .i64 level, .bool accept, .slice A2 order.length c2, .int .i64 bk, .int .i64 bi, .int .i64 bj, .slice A6 ring.length c6, .slice A7 proofs.length c7] 30) := ⟨_, rfl⟩
  have hB1 : Below w.heap.size w w1 := by rw [hw1]; exact below_alloc (Below.refl w.heap.size w) _
  have hX1 : RowIs w1 w.heap.size 30 [.string tenant, .int .i64 seq, .string prev, .string root, .int .i64 count, .int .i64 level, .bool accept, .slice A2 order.length c2, .int .i64 bk, .int .i64 bi, .int .i64 bj, .slice A6 ring.length c6, .slice A7 proofs.length c7] := by rw [hw1]; exact RowIs.new w 30 [.string tenant, .int .i64 seq, .string prev, .string root, .int .i64 count, .int .i64 level, .bool accept, .slice A2 order.length c2, .int .i64 bk, .int .i64 bi, .int .i64 bj, .slice A6 ring.length c6, .slice A7 proofs.length c7]
  have HB1 := Lib.hid hB1; have HX1 := Lib.hid hX1
  have hPV := fun u (hb : Below w.heap.size w u) => lnProved_any tenant seq prev root count level accept A2 c2 order bk bi bj A6 c6 ring A7 c7 proofs top u (hT.below hb hT.size) (Kd.C_below h2 hb) (Kd.C_below h6 hb) (Kd.C_below h7 hb)
  simp only [hpv] at hPV
  have HPV := Lib.hid hPV
  have g0b : (pv != 0) = true := bne_iff_ne.mpr hp0
  clear hT h2 h6 h7 hX1 hB1 hpv hPV hrt
  go_enter Tryz.func12, Tryz.ntmps12
  go_wp2_with (go_at_call 10; rw [← hw1]; refine (HPV.out _ HB1.out).mono ?_; rintro e w2 ⟨rfl, hb⟩; have HB2 := Lib.hid (below_step HB1.out hb); have hx := HX1.out.below hb; have x0 := hx.cell (i := 0) rfl; have x1 := hx.cell (i := 1) rfl; have x2 := hx.cell (i := 2) rfl; have x3 := hx.cell (i := 3) rfl; have x4 := hx.cell (i := 4) rfl; have x5 := hx.cell (i := 5) rfl; have x6 := hx.cell (i := 6) rfl; have x7 := hx.cell (i := 7) rfl; have x8 := hx.cell (i := 8) rfl; have x9 := hx.cell (i := 9) rfl; have x10 := hx.cell (i := 10) rfl; have x11 := hx.cell (i := 11) rfl; have x12 := hx.cell (i := 12) rfl; clear hb hx)
  go_ret
  exact ⟨by first | rfl | (simp; done) | (simp [*]; done), HB2.out⟩
set_option maxHeartbeats 8000000 in
set_option maxRecDepth 100000 in
theorem roots_walk (tenant : ByteArray) (seq : Int) (prev root : ByteArray) (count level : Int) (accept : Bool) (A2 : Option Addr) (c2 : Nat) (order : List Int) (bk bi bj : Int) (A6 : Option Addr) (c6 : Nat) (ring : List Edg) (A7 : Option Addr) (c7 : Nat) (proofs : List Prf) (top : ByteArray) (w : World) (hT : Tabs w) (h2 : Kd.C (Kd.int .i64) w A2 order.length order) (h6 : Kd.C k32 w A6 ring.length ring) (h7 : Kd.C k55 w A7 proofs.length proofs) :
    Calls Tryz.prog 8 #[.agg #[.string tenant, .int .i64 seq, .string prev, .string root, .int .i64 count, .int .i64 level, .bool accept, .slice A2 order.length c2, .int .i64 bk, .int .i64 bi, .int .i64 bj, .slice A6 ring.length c6, .slice A7 proofs.length c7], .string top] w fun e w' => e = .returned (.bool true) ∧ Below w.heap.size w w' := by
  obtain ⟨w1, hw1⟩ : ∃ w1, w1 = w.alloc (.cells #[.string tenant, .int .i64 seq, .string prev, .string root, .int .i64 count, .int .i64 level, .bool accept, .slice A2 order.length c2, .int .i64 bk, .int .i64 bi, .int .i64 bj, .slice A6 ring.length c6, .slice A7 proofs.length c7] 30) := ⟨_, rfl⟩
  have hB1 : Below w.heap.size w w1 := by rw [hw1]; exact below_alloc (Below.refl w.heap.size w) _
  have hX1 : RowIs w1 w.heap.size 30 [.string tenant, .int .i64 seq, .string prev, .string root, .int .i64 count, .int .i64 level, .bool accept, .slice A2 order.length c2, .int .i64 bk, .int .i64 bi, .int .i64 bj, .slice A6 ring.length c6, .slice A7 proofs.length c7] := by rw [hw1]; exact RowIs.new w 30 [.string tenant, .int .i64 seq, .string prev, .string root, .int .i64 count, .int .i64 level, .bool accept, .slice A2 order.length c2, .int .i64 bk, .int .i64 bi, .int .i64 bj, .slice A6 ring.length c6, .slice A7 proofs.length c7]
  have HB1 := Lib.hid hB1; have HX1 := Lib.hid hX1
  have HS := Lib.hid (fun u (hb : Below w.heap.size w u) => shown_any u (hT.below hb hT.size))
  have armS : True := trivial
  by_cases g1 : (60 : Int) < (proofs.length : Int)
  · clear hT h2 h6 h7 hX1 hB1
    go_enter Tryz.func8, Tryz.ntmps8
    go_wp2_with (go_at_call 9; rw [← hw1]; refine (HS.out _ HB1.out).mono ?_; rintro e w2 ⟨rfl, hb⟩; have HB2 := Lib.hid (below_step HB1.out hb); have hx := HX1.out.below hb; have x0 := hx.cell (i := 0) rfl; have x1 := hx.cell (i := 1) rfl; have x2 := hx.cell (i := 2) rfl; have x3 := hx.cell (i := 3) rfl; have x4 := hx.cell (i := 4) rfl; have x5 := hx.cell (i := 5) rfl; have x6 := hx.cell (i := 6) rfl; have x7 := hx.cell (i := 7) rfl; have x8 := hx.cell (i := 8) rfl; have x9 := hx.cell (i := 9) rfl; have x10 := hx.cell (i := 10) rfl; have x11 := hx.cell (i := 11) rfl; have x12 := hx.cell (i := 12) rfl; clear hb hx)
    go_ret
    exact ⟨rfl, HB2.out⟩
  · by_cases hrt : root = top
    · subst hrt
      clear hT h2 h6 h7 hX1 hB1
      go_enter Tryz.func8, Tryz.ntmps8
      go_wp2_with (go_at_call 9; rw [← hw1]; refine (HS.out _ HB1.out).mono ?_; rintro e w2 ⟨rfl, hb⟩; have HB2 := Lib.hid (below_step HB1.out hb); have hx := HX1.out.below hb; have x0 := hx.cell (i := 0) rfl; have x1 := hx.cell (i := 1) rfl; have x2 := hx.cell (i := 2) rfl; have x3 := hx.cell (i := 3) rfl; have x4 := hx.cell (i := 4) rfl; have x5 := hx.cell (i := 5) rfl; have x6 := hx.cell (i := 6) rfl; have x7 := hx.cell (i := 7) rfl; have x8 := hx.cell (i := 8) rfl; have x9 := hx.cell (i := 9) rfl; have x10 := hx.cell (i := 10) rfl; have x11 := hx.cell (i := 11) rfl; have x12 := hx.cell (i := 12) rfl; clear hb hx)
      go_ret
      exact ⟨rfl, HB2.out⟩
    · have t1 := ba_list_ne hrt
      have t3 := ba_list_ne (Ne.symm hrt)
      have t2 : (top.toList == root.toList) = false := by rw [ba_list]; exact decide_eq_false (Ne.symm hrt)
      have hv : lnProved ⟨tenant, seq, prev, root, count, level, accept, order, bk, bi, bj, ring, proofs⟩ top = 13 ∨ lnProved ⟨tenant, seq, prev, root, count, level, accept, order, bk, bi, bj, ring, proofs⟩ top = 1 := by
        unfold lnProved
        split
        · first | exact .inl rfl | (rw [if_neg hrt]; exact .inl rfl)
        · exact .inr rfl
      have HCK := Lib.hid (fun u pv (hb : Below w.heap.size w u) h1 h2' => lnCheck_other tenant seq prev root count level accept A2 c2 order bk bi bj A6 c6 ring A7 c7 proofs top hrt pv u (hT.below hb hT.size) (Kd.C_below h2 hb) (Kd.C_below h6 hb) (Kd.C_below h7 hb) h1 h2')
      have hPV := fun u (hb : Below w.heap.size w u) => lnProved_any tenant seq prev root count level accept A2 c2 order bk bi bj A6 c6 ring A7 c7 proofs top u (hT.below hb hT.size) (Kd.C_below h2 hb) (Kd.C_below h6 hb) (Kd.C_below h7 hb)
      rcases hv with hv | hv <;>
      · simp only [hv] at hPV
        have HPV := Lib.hid hPV
        have HCK2 := Lib.hid (fun u hb => HCK.out u _ hb hv (by decide))
        clear hT h2 h6 h7 hX1 hB1 hPV hv HCK
        go_enter Tryz.func8, Tryz.ntmps8
        go_wp2_with (first | (go_at_call 9; rw [← hw1]; refine (HS.out _ HB1.out).mono ?_; rintro e w2 ⟨rfl, hb⟩; have HB2 := Lib.hid (below_step HB1.out hb); have hx := HX1.out.below hb; have HX2 := Lib.hid hx; have x0 := hx.cell (i := 0) rfl; have x1 := hx.cell (i := 1) rfl; have x2 := hx.cell (i := 2) rfl; have x3 := hx.cell (i := 3) rfl; have x4 := hx.cell (i := 4) rfl; have x5 := hx.cell (i := 5) rfl; have x6 := hx.cell (i := 6) rfl; have x7 := hx.cell (i := 7) rfl; have x8 := hx.cell (i := 8) rfl; have x9 := hx.cell (i := 9) rfl; have x10 := hx.cell (i := 10) rfl; have x11 := hx.cell (i := 11) rfl; have x12 := hx.cell (i := 12) rfl; clear hb hx) | (go_at_call 12; refine (HCK2.out _ HB2.out).mono ?_; rintro e w3 ⟨rfl, hb⟩; have HB3 := Lib.hid (below_step HB2.out hb); have hx := HX2.out.below hb; have x0 := hx.cell (i := 0) rfl; have x1 := hx.cell (i := 1) rfl; have x2 := hx.cell (i := 2) rfl; have x3 := hx.cell (i := 3) rfl; have x4 := hx.cell (i := 4) rfl; have x5 := hx.cell (i := 5) rfl; have x6 := hx.cell (i := 6) rfl; have x7 := hx.cell (i := 7) rfl; have x8 := hx.cell (i := 8) rfl; have x9 := hx.cell (i := 9) rfl; have x10 := hx.cell (i := 10) rfl; have x11 := hx.cell (i := 11) rfl; have x12 := hx.cell (i := 12) rfl; clear hb hx) | (go_at_call 10; refine (HPV.out _ HB3.out).mono ?_; rintro e w4 ⟨rfl, hb⟩; have HB4 := Lib.hid (below_step HB3.out hb); clear hb))
        go_ret
        exact ⟨rfl, HB4.out⟩
namespace Q
def cartouchelaw15_LeanRoots.f (_ : ByteArray) (_ : Int) (_ _ : ByteArray) (_ _ : Int) (_ : Bool) (_ : List Int) (_ _ _ : Int) (_ : List Edg) (_ : List Prf) (_ : ByteArray) : Option Bool := some true
theorem cartouchelaw15_LeanRoots.calls (tenant : ByteArray) (seq : Int) (prev root : ByteArray) (count level : Int) (accept : Bool) (A2 : Option Addr) (c2 : Nat) (order : List Int) (bk bi bj : Int) (A6 : Option Addr) (c6 : Nat) (ring : List Edg) (A7 : Option Addr) (c7 : Nat) (proofs : List Prf) (top : ByteArray) (r : Bool) (w : World) (hT : Tabs w) (h2 : Kd.C (Kd.int .i64) w A2 order.length order) (_ : order.length ≤ c2) (h6 : Kd.C k32 w A6 ring.length ring) (_ : ring.length ≤ c6) (h7 : Kd.C k55 w A7 proofs.length proofs) (_ : proofs.length ≤ c7) (h : cartouchelaw15_LeanRoots.f tenant seq prev root count level accept order bk bi bj ring proofs top = some r) :
    Calls Tryz.prog 8 #[.agg #[.string tenant, .int .i64 seq, .string prev, .string root, .int .i64 count, .int .i64 level, .bool accept, .slice A2 order.length c2, .int .i64 bk, .int .i64 bi, .int .i64 bj, .slice A6 ring.length c6, .slice A7 proofs.length c7], .string top] w fun e w' => e = .returned (.bool r) ∧ Below w.heap.size w w' := by
  obtain rfl : true = r := Option.some.inj h
  exact roots_walk tenant seq prev root count level accept A2 c2 order bk bi bj A6 c6 ring A7 c7 proofs top w hT h2 h6 h7
end Q
theorem LeanRoots_pure (tenant : ByteArray) (seq : Int) (prev root : ByteArray) (count level : Int) (accept : Bool) (order : List Int) (bk bi bj : Int) (ring : List Edg) (proofs : List Prf) (top : ByteArray) {B0 B1 : Prop} (_ : B0) (_ : B1) : Q.cartouchelaw15_LeanRoots.f tenant seq prev root count level accept order bk bi bj ring proofs top = some true := rfl
end Go.Proofs.YtjlpjpjodhkpdaaGreatDoor
