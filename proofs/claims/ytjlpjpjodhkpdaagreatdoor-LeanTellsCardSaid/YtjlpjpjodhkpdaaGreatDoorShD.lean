/- The document's example: the places that its verdict shows. · The document's example: the ring's edges in a row. · The document's example: its verdict. · The document's example: the places that its proofs hold. · The document's example: its redacted history. -/
import Derived.Test.YtjlpjpjodhkpdaaGreatDoorSh10
import Derived.Test.YtjlpjpjodhkpdaaGreatDoorSh8
import Derived.Test.YtjlpjpjodhkpdaaGreatDoorQD
set_option maxHeartbeats 8000000
set_option maxRecDepth 100000
set_option linter.unusedVariables false
set_option linter.unusedSimpArgs false
namespace Go.Proofs.YtjlpjpjodhkpdaaGreatDoor
open Go.RowKit Go.Proofs.YtjlpjpjodhkpdaaGreatDoor.Q Go.Proofs.YtjlpjpjodhkpdaaGreatDoorW.PrintWords
def vCells (gr cr : Nat) : List Value := [.int .i64 1, .bool false, .slice none 0 0, .int .i64 0, .int .i64 0, .int .i64 0, .slice (some ⟨gr, 0, none⟩) 2 cr]
def WaS (g gr cr gb : Nat) (w W : World) : Prop := H0 g W ∧ Pre W gb 27 (vCells gr cr) ∧ Pre W gr 32 (edge1 ++ edge2) ∧ Below w.heap.size w W
section
variable {g gr cr gb : Nat} {w W W' : World}
theorem WaS.drewN (h : WaS g gr cr gb w W) (n : Nat) : WaS g gr cr gb w (W.drewN n) := ⟨h.1, h.2.1, h.2.2.1, pw_below_drewN h.2.2.2 n⟩
theorem WaS.alloc (h : WaS g gr cr gb w W) (o : Obj) : WaS g gr cr gb w (W.alloc o) := ⟨RowIs.alloc h.1 o, h.2.1.alloc o, h.2.2.1.alloc o, below_alloc h.2.2.2 o⟩
theorem WaS.below (h : WaS g gr cr gb w W) (hb : Below W.heap.size W W') : WaS g gr cr gb w W' := ⟨h.1.below hb, h.2.1.below hb, h.2.2.1.below hb, below_step h.2.2.2 hb⟩
theorem WaS.app (h : WaS g gr cr gb w W) {n : Nat} {v : Value} {xs : List Value} {o : Obj} (ho : W.ownsRow w.heap.size 3 1 v n xs) (hg : (W.alloc o).grownBy W' v.ownBlock) : WaS g gr cr gb w W' :=
 ⟨(RowIs.alloc h.1 o).grown hg (((Pre.of_row h.1).alloc o).ne_row (ho.alloc o) (by decide)), h.2.1.kept_row ho (by decide) hg, h.2.2.1.kept_row ho (by decide) hg, below_row h.2.2.2 ho hg⟩
theorem own_apart {b e s n : Nat} {v u : Value} {xs : List Value} {o : Obj} (h : W.ownsRow b e s v n xs) (hne : v.ownBlock = none ∨ v.ownBlock ≠ u.ownBlock) (hg : (W.alloc o).grownBy W' u.ownBlock) : W'.ownsRow b e s v n xs := (h.alloc o).kept hg hne
theorem ne_none {g n c : Nat} {u : Value} (hn : u.ownBlock = none) : (Value.slice (some ⟨g, 0, none⟩) n c).ownBlock ≠ u.ownBlock := by rw [hn]; simp [Value.ownBlock]
theorem ne_row2 {g n c g' n' c' : Nat} (hn : g ≠ g') : (Value.slice (some ⟨g, 0, none⟩) n c).ownBlock ≠ (Value.slice (some ⟨g', 0, none⟩) n' c').ownBlock := by simp [Value.ownBlock]; exact hn
theorem far_row {gl ge gl1 n n' c c' : Nat} {o : Obj} (hl : (Value.slice (some ⟨gl1, 0, none⟩) n' c').ownBlock = (Value.slice (some ⟨gl, 0, none⟩) n c).ownBlock ∨ (Value.slice (some ⟨gl1, 0, none⟩) n' c').ownBlock = some (W.alloc o).heap.size) (hge : ge < W.heap.size) (hne : gl ≠ ge) : gl1 ≠ ge := by
 intro hh
 simp [Value.ownBlock] at hl
 rcases hl with h | h <;> omega
theorem far_none {ge ge1 n' c' : Nat} {u : Value} {o : Obj} (hl : (Value.slice (some ⟨ge1, 0, none⟩) n' c').ownBlock = u.ownBlock ∨ (Value.slice (some ⟨ge1, 0, none⟩) n' c').ownBlock = some (W.alloc o).heap.size) (hge : ge < W.heap.size) (hn : u.ownBlock = none) : ge ≠ ge1 := by
 intro hh
 rw [hn] at hl
 simp [Value.ownBlock] at hl
 omega
theorem box_app {gb n b : Nat} {v : Value} {xs cs : List Value} {o : Obj} (hp : Pre W gb 32 cs) (ho : W.ownsRow b 3 1 v n xs) (hg : (W.alloc o).grownBy W' v.ownBlock) : Pre W' gb 32 cs := hp.kept_row ho (by decide) hg
theorem row_top {b e s n c g : Nat} {xs : List Value} (h : W.ownsRow b e s (.slice (some ⟨g, 0, none⟩) n c) n xs) : g < W.heap.size := (row_cap h).2.2
end
theorem find_ev (g : Nat) (w : World) (hg : H0 g w) (a r2 r3 : Int) (h : cartoucheref08_Find.f 50 h0 a = some (a, r2, r3, true, true)) : Calls Tryz.prog 128 #[.slice (some ⟨g, 0, none⟩) 8 8, .int .i64 a] w fun e w' => e = .returned (.tuple #[.agg #[.int .i64 a, .int .i64 r2, .int .i64 r3, .bool true], .bool true]) ∧ Below w.heap.size w w' :=
 cartoucheref08_Find.calls 50 (some ⟨g, 0, none⟩) 8 h0 a a r2 r3 true true w (kc0 hg) (Nat.le_refl _) h
theorem wanted_c (g gr cr : Nat) (w : World) (hg : H0 g w) (hr : Pre w gr 32 (edge1 ++ edge2)) (n : Int) (h0' : 0 ≤ n) (h8 : n < 8) :
 Calls Tryz.prog 98 #[.slice (some ⟨g, 0, none⟩) 8 8, .agg #[.int .i64 1, .bool false, .slice none 0 0, .int .i64 0, .int .i64 0, .int .i64 0, .slice (some ⟨gr, 0, none⟩) 2 cr], .int .i64 n] w fun e w' => e = .returned (.bool (decide (3 ≤ n))) ∧ Below w.heap.size w w' := by
 obtain ⟨i0, hi0, hz0, hz1, hz2⟩ := info_parts infoInt
 obtain ⟨r, hrr⟩ : ∃ r, r = decide (3 ≤ n) := ⟨_, rfl⟩
 rw [← hrr]
 have HRR := Lib.hid hrr
 have hb0 := Pre.new w 27 (vCells gr cr)
 have HS := Lib.hid (show WaS g gr cr w.heap.size w (w.alloc (.cells (vCells gr cr).toArray 27)) from ⟨RowIs.alloc hg _, hb0, hr.alloc _, below_alloc (Below.refl _ _) _⟩)
 have z0 := hb0.cell (i := 0) rfl; have z1 := hb0.cell (i := 1) rfl; have z3 := hb0.cell (i := 3) rfl
 clear hg hr hrr hb0
 go_enter Tryz.func98, Tryz.ntmps98
 go_wp2
 clear z0 z1 z3
 go_loopw [7, 8, 10] (fun x y z v => ∃ i : Int, z = .int .i64 i ∧ Hid (WaS g gr cr w.heap.size w v ∧ ((i = 0 ∧ y.ownBlock = none ∧ v.ownsRow w.heap.size 3 1 x 0 [] ∧ v.ownsRow w.heap.size 3 1 y 0 []) ∨
  (i = 1 ∧ ∃ gl cl ge ce, gl ≠ ge ∧ x = .slice (some ⟨gl, 0, none⟩) 2 cl ∧ y = .slice (some ⟨ge, 0, none⟩) 2 ce ∧ v.ownsRow w.heap.size 3 1 x 2 [.int .i64 4, .int .i64 5] ∧ v.ownsRow w.heap.size 3 1 y 2 [.int .i64 1, .int .i64 2]) ∨
  (i = 2 ∧ ∃ gl cl ge ce, x = .slice (some ⟨gl, 0, none⟩) 4 cl ∧ y = .slice (some ⟨ge, 0, none⟩) 4 ce ∧ Pre v gl 3 [.int .i64 4, .int .i64 5, .int .i64 3, .int .i64 4] ∧ Pre v ge 3 [.int .i64 1, .int .i64 2, .int .i64 2, .int .i64 1])))) (fun _ _ z _ => (3 - intOf z).toNat)
 case atStart => exact ⟨0, rfl, Lib.hid ⟨HS.out, .inl ⟨rfl, rfl, World.ownsRow_nil _ _ _ _, World.ownsRow_nil _ _ _ _⟩⟩⟩
 case round =>
  clear HS
  obtain ⟨i, rfl, HI⟩ := hrel
  obtain ⟨hS, hi⟩ := HI.out
  have HS := Lib.hid hS
  have z6 := hS.2.1.cell (i := 6) rfl
  have hzr := hS.2.2.2.size
  have r0 := hS.2.2.1.cell (i := 0) rfl; have r1 := hS.2.2.1.cell (i := 1) rfl; have r2 := hS.2.2.1.cell (i := 2) rfl; have r3 := hS.2.2.1.cell (i := 3) rfl; have r4 := hS.2.2.1.cell (i := 4) rfl
  have r5 := hS.2.2.1.cell (i := 5) rfl; have r6 := hS.2.2.1.cell (i := 6) rfl; have r7 := hS.2.2.1.cell (i := 7) rfl; have r8 := hS.2.2.1.cell (i := 8) rfl; have r9 := hS.2.2.1.cell (i := 9) rfl
  clear HI hS
  obtain ⟨wo, rfl⟩ : ∃ wo : World, wo = wr := ⟨_, rfl⟩
  rcases hi with ⟨rfl, hyn, hol, hoe⟩ | ⟨rfl, gl, cl, ge, ce, hne, rfl, rfl, hol, hoe⟩ | ⟨rfl, gl, cl, ge, ce, rfl, rfl, hpl, hpe⟩
  · have hbx := Pre.new wo 32 [.int .i64 1, .int .i64 1, .int .i64 2, .int .i64 4, .int .i64 5]
    have b0 := hbx.cell (i := 0) rfl; have b1 := hbx.cell (i := 1) rfl; have b2 := hbx.cell (i := 2) rfl; have b3 := hbx.cell (i := 3) rfl; have b4 := hbx.cell (i := 4) rfl
    have HBX := Lib.hid hbx
    have HL := Lib.hid hol; have HE := Lib.hid hoe; have HYN := Lib.hid hyn
    have HSb := Lib.hid (HS.out.alloc (.cells #[.int .i64 1, .int .i64 1, .int .i64 2, .int .i64 4, .int .i64 5] 32))
    have HLb := Lib.hid (HL.out.alloc (.cells #[.int .i64 1, .int .i64 1, .int .i64 2, .int .i64 4, .int .i64 5] 32)); have HEb := Lib.hid (HE.out.alloc (.cells #[.int .i64 1, .int .i64 1, .int .i64 2, .int .i64 4, .int .i64 5] 32))
    clear hbx
    go_wp2_with (first
     | (at_builtin; refine wpList_append_own_at _ rfl _ _ 22 rfl w.heap.size 3 i0 (.int .i64 0) 1 8 Tryz.underlying22 hi0 hz0 hz1 hz2 rfl (by decide) u7 0 [] rfl (HLb.out.alloc _) ⟨wo.heap.size + 1, 0, none⟩ 2 2 [.int .i64 4, .int .i64 5] ?_ ?_ ?_ ?_ ?_ ?_ ?_ ?_; (· rfl); (· rfl); (· exact cells_new_at _ _ _ _ (by simp)); (· simp [Value.oneCell']); (· (unfold maxLen; omega)); (· omega); (· (simp; omega)); have tok := True.intro; intro v1 w1 hown1 hgrow1 _ hlies1; obtain ⟨gl1, cl1, rfl⟩ := ownsRow_succ hown1; have HS1 := Lib.hid (HSb.out.app HLb.out hgrow1); have HX1 := Lib.hid (box_app HBX.out HLb.out hgrow1); have HL1 := Lib.hid hown1; have hE1 := own_apart (W := (wo.alloc (.cells #[.int .i64 1, .int .i64 1, .int .i64 2, .int .i64 4, .int .i64 5] 32))) HEb.out (.inl HYN.out) hgrow1; have HE1 := Lib.hid hE1; clear hE1; have hzw := HS1.out.2.2.2.size; have d1 := HX1.out.cell (i := 1) rfl; have d2 := HX1.out.cell (i := 2) rfl; have d0 := HX1.out.cell (i := 0) rfl; have d3 := HX1.out.cell (i := 3) rfl; clear hown1 hgrow1)
     | (at_builtin; refine wpList_append_own_at _ rfl _ _ 22 rfl w.heap.size 3 i0 (.int .i64 0) 1 8 Tryz.underlying22 hi0 hz0 hz1 hz2 rfl (by decide) u8 0 [] rfl (HE1.out.alloc _) ⟨w1.heap.size, 0, none⟩ 2 2 [.int .i64 1, .int .i64 2] ?_ ?_ ?_ ?_ ?_ ?_ ?_ ?_; (· rfl); (· rfl); (· exact cells_new_at _ _ _ _ (by simp)); (· simp [Value.oneCell']); (· (unfold maxLen; omega)); (· omega); (· (simp; omega)); intro v2 w2 hown2 hgrow2 _ hlies2; obtain ⟨ge1, ce1, rfl⟩ := ownsRow_succ hown2; have HS2 := Lib.hid (HS1.out.app HE1.out hgrow2); have HX2 := Lib.hid (box_app HX1.out HE1.out hgrow2); have HE2 := Lib.hid hown2; have hlt1 := row_top HL1.out; have hL2 := own_apart HL1.out (.inr (ne_none HYN.out)) hgrow2; have HL2 := Lib.hid hL2; clear hL2; have x0 := HX2.out.cell (i := 0) rfl; have x3 := HX2.out.cell (i := 3) rfl; have hne2 := far_none hlies2 hlt1 HYN.out; clear hown2 hgrow2))
    go_roundw
    case rel => exact ⟨1, rfl, Lib.hid ⟨HS2.out, .inr (.inl ⟨rfl, gl1, cl1, ge1, ce1, hne2, rfl, rfl, HL2.out, HE2.out⟩)⟩⟩
    case measure => simp [intOf]
  · have hbx := Pre.new wo 32 [.int .i64 3, .int .i64 2, .int .i64 1, .int .i64 3, .int .i64 4]
    have b0 := hbx.cell (i := 0) rfl; have b1 := hbx.cell (i := 1) rfl; have b2 := hbx.cell (i := 2) rfl; have b3 := hbx.cell (i := 3) rfl; have b4 := hbx.cell (i := 4) rfl
    have HBX := Lib.hid hbx
    have HL := Lib.hid hol; have HE := Lib.hid hoe
    have HSb := Lib.hid (HS.out.alloc (.cells #[.int .i64 3, .int .i64 2, .int .i64 1, .int .i64 3, .int .i64 4] 32))
    have HLb := Lib.hid (HL.out.alloc (.cells #[.int .i64 3, .int .i64 2, .int .i64 1, .int .i64 3, .int .i64 4] 32)); have HEb := Lib.hid (HE.out.alloc (.cells #[.int .i64 3, .int .i64 2, .int .i64 1, .int .i64 3, .int .i64 4] 32))
    clear hbx
    have HNE := Lib.hid (show (Value.slice (some ⟨ge, 0, none⟩) 2 ce).ownBlock ≠ (Value.slice (some ⟨gl, 0, none⟩) 2 cl).ownBlock by simp [Value.ownBlock]; exact fun h => hne h.symm)
    have HG12 := HSb.out.1.cell (i := 15) rfl
    go_wp2_with (first
     | (at_builtin; refine wpList_append_own_at _ rfl _ _ 22 rfl w.heap.size 3 i0 (.int .i64 0) 1 8 Tryz.underlying22 hi0 hz0 hz1 hz2 rfl (by decide) (.slice (some ⟨gl, 0, none⟩) 2 cl) 2 [.int .i64 4, .int .i64 5] rfl (HLb.out.alloc _) ⟨wo.heap.size + 1, 0, none⟩ 2 2 [.int .i64 3, .int .i64 4] ?_ ?_ ?_ ?_ ?_ ?_ ?_ ?_; (· rfl); (· rfl); (· exact cells_new_at _ _ _ _ (by simp)); (· simp [Value.oneCell']); (· (unfold maxLen; omega)); (· omega); (· (simp; omega)); have tok := True.intro; intro v1 w1 hown1 hgrow1 _ hlies1; obtain ⟨gl1, cl1, rfl⟩ := ownsRow_succ hown1; have HS1 := Lib.hid (HSb.out.app HLb.out hgrow1); have HX1 := Lib.hid (box_app HBX.out HLb.out hgrow1); have HL1 := Lib.hid hown1; have hE1 := own_apart (W := (wo.alloc (.cells #[.int .i64 3, .int .i64 2, .int .i64 1, .int .i64 3, .int .i64 4] 32))) HEb.out (.inr HNE.out) hgrow1; have HE1 := Lib.hid hE1; clear hE1; have hzw := HS1.out.2.2.2.size; have d1 := HX1.out.cell (i := 1) rfl; have d2 := HX1.out.cell (i := 2) rfl; have d0 := HX1.out.cell (i := 0) rfl; have d3 := HX1.out.cell (i := 3) rfl; clear hown1 hgrow1)
     | (at_builtin; refine wpList_append_own_at _ rfl _ _ 22 rfl w.heap.size 3 i0 (.int .i64 0) 1 8 Tryz.underlying22 hi0 hz0 hz1 hz2 rfl (by decide) (.slice (some ⟨ge, 0, none⟩) 2 ce) 2 [.int .i64 1, .int .i64 2] rfl (HE1.out.alloc _) ⟨w1.heap.size, 0, none⟩ 2 2 [.int .i64 2, .int .i64 1] ?_ ?_ ?_ ?_ ?_ ?_ ?_ ?_; (· rfl); (· rfl); (· exact cells_new_at _ _ _ _ (by simp)); (· simp [Value.oneCell']); (· (unfold maxLen; omega)); (· omega); (· (simp; omega)); intro v2 w2 hown2 hgrow2 _ hlies2; obtain ⟨ge1, ce1, rfl⟩ := ownsRow_succ hown2; have HS2 := Lib.hid (HS1.out.app HE1.out hgrow2); have HX2 := Lib.hid (box_app HX1.out HE1.out hgrow2); have HE2 := Lib.hid hown2; have hnx : gl1 ≠ ge := far_row hlies1 (row_top HEb.out) hne; have hL2 := own_apart HL1.out (.inr (ne_row2 hnx)) hgrow2; have HL2 := Lib.hid hL2; clear hL2; have x0 := HX2.out.cell (i := 0) rfl; have x3 := HX2.out.cell (i := 3) rfl; have x15 := HS2.out.1.cell (i := 15) rfl; clear hown2 hgrow2))
    go_roundw
    case rel => exact ⟨2, rfl, Lib.hid ⟨HS2.out, .inr (.inr ⟨rfl, gl1, cl1, ge1, ce1, rfl, rfl, Pre.of_own HL2.out, Pre.of_own HE2.out⟩)⟩⟩
    case measure => simp [intOf]
  · have HPL := Lib.hid hpl; have HPE := Lib.hid hpe
    clear hpl hpe r0 r1 r2 r3 r4 r5 r6 r7 r8 r9
    go_wp2
    go_loop [13] (fun y => ∃ i : Int, y = .int .i64 i ∧ Hid ((i = 0) ∨ (i = 1 ∧ n ≠ 4) ∨ (i = 2 ∧ n ≠ 4 ∧ n ≠ 5) ∨ (i = 3 ∧ n ≠ 4 ∧ n ≠ 5 ∧ n ≠ 3) ∨ (i = 4 ∧ n ≠ 4 ∧ n ≠ 5 ∧ n ≠ 3))) (fun y => (5 - intOf y).toNat)
    case atStart => exact ⟨0, rfl, Lib.hid (.inl rfl)⟩
    case round =>
     obtain ⟨i, rfl, HI⟩ := hrel
     have hi := HI.out
     clear HI
     have l0 := HPL.out.cell (i := 0) rfl; have l1 := HPL.out.cell (i := 1) rfl; have l2 := HPL.out.cell (i := 2) rfl; have l3 := HPL.out.cell (i := 3) rfl
     rcases hi with rfl | ⟨rfl, hn4⟩ | ⟨rfl, hn4, hn5⟩ | ⟨rfl, hn4, hn5, hn3⟩ | ⟨rfl, hn4, hn5, hn3⟩
     · by_cases hq : n = 4
       · subst hq
         go_wp2
         go_ret
         exact ⟨by rw [HRR.out]; rfl, HS.out.2.2.2⟩
       · have e1 : ((4 : Int) == n) = false := by simp; omega
         go_wp2
         go_round
         case rel => exact ⟨1, rfl, Lib.hid (.inr (.inl ⟨rfl, hq⟩))⟩
         case measure => simp [intOf]
     · by_cases hq : n = 5
       · subst hq
         go_wp2
         go_ret
         exact ⟨by rw [HRR.out]; rfl, HS.out.2.2.2⟩
       · have e1 : ((5 : Int) == n) = false := by simp; omega
         go_wp2
         go_round
         case rel => exact ⟨2, rfl, Lib.hid (.inr (.inr (.inl ⟨rfl, hn4, hq⟩)))⟩
         case measure => simp [intOf]
     · by_cases hq : n = 3
       · subst hq
         go_wp2
         go_ret
         exact ⟨by rw [HRR.out]; rfl, HS.out.2.2.2⟩
       · have e1 : ((3 : Int) == n) = false := by simp; omega
         go_wp2
         go_round
         case rel => exact ⟨3, rfl, Lib.hid (.inr (.inr (.inr (.inl ⟨rfl, hn4, hn5, hq⟩))))⟩
         case measure => simp [intOf]
     · have e1 : ((4 : Int) == n) = false := by simp; omega
       go_wp2
       go_round
       case rel => exact ⟨4, rfl, Lib.hid (.inr (.inr (.inr (.inr ⟨rfl, hn4, hn5, hn3⟩))))⟩
       case measure => simp [intOf]
     · go_wp2
       obtain ⟨wl, rfl⟩ : ∃ wl : World, wl = wo := ⟨_, rfl⟩
       go_loopw [14] (fun y v => ∃ i : Int, y = .int .i64 i ∧ Hid (WaS g gr cr w.heap.size w v ∧ Pre v ge 3 [.int .i64 1, .int .i64 2, .int .i64 2, .int .i64 1] ∧ ((i = 0) ∨ (i = 1 ∧ n ≠ 6) ∨ (i = 2 ∧ n ≠ 6 ∧ n ≠ 7) ∨ (i = 3 ∧ n ≠ 6 ∧ n ≠ 7) ∨ (i = 4 ∧ n ≠ 6 ∧ n ≠ 7)))) (fun y _ => (5 - intOf y).toNat)
       case atStart => exact ⟨0, rfl, Lib.hid ⟨HS.out, HPE.out, .inl rfl⟩⟩
       case round =>
        clear HS HPE
        obtain ⟨i, rfl, HI⟩ := hrel
        obtain ⟨hS, hpe, hi⟩ := HI.out
        have HS := Lib.hid hS; have HPE := Lib.hid hpe; have HG := Lib.hid hS.1
        have e0 := hpe.cell (i := 0) rfl; have e1 := hpe.cell (i := 1) rfl; have e2 := hpe.cell (i := 2) rfl; have e3 := hpe.cell (i := 3) rfl
        clear HI hS hpe
        obtain ⟨wi, rfl⟩ : ∃ wi : World, wi = wr := ⟨_, rfl⟩
        rcases hi with rfl | ⟨rfl, hn6⟩ | ⟨rfl, hn6, hn7⟩ | ⟨rfl, hn6, hn7⟩ | ⟨rfl, hn6, hn7⟩
        · by_cases hq : n = 6
          · subst hq
            go_wp2_with (go_at_call 128; (with_reducible refine (find_ev g _ HG.out 1 0 6 (by kernel_rfl)).mono ?_); rintro e w2 ⟨rfl, hb2⟩; have HB2 := Lib.hid hb2; clear hb2)
            go_ret
            exact ⟨by rw [HRR.out]; rfl, ((HS.out.below HB2.out).alloc _).2.2.2⟩
          · have e4 : ((6 : Int) == n) = false := by simp; omega
            go_wp2_with (go_at_call 128; (with_reducible refine (find_ev g _ HG.out 1 0 6 (by kernel_rfl)).mono ?_); rintro e w2 ⟨rfl, hb2⟩; have HB2 := Lib.hid hb2; clear hb2)
            go_roundw
            case rel => exact ⟨1, rfl, Lib.hid ⟨((HS.out.below HB2.out).alloc _), (HPE.out.below HB2.out).alloc _, (.inr (.inl ⟨rfl, hq⟩))⟩⟩
            case measure => simp [intOf]
        · by_cases hq : n = 7
          · subst hq
            go_wp2_with (go_at_call 128; (with_reducible refine (find_ev g _ HG.out 2 1 7 (by kernel_rfl)).mono ?_); rintro e w2 ⟨rfl, hb2⟩; have HB2 := Lib.hid hb2; clear hb2)
            go_ret
            exact ⟨by rw [HRR.out]; rfl, ((HS.out.below HB2.out).alloc _).2.2.2⟩
          · have e4 : ((7 : Int) == n) = false := by simp; omega
            go_wp2_with (go_at_call 128; (with_reducible refine (find_ev g _ HG.out 2 1 7 (by kernel_rfl)).mono ?_); rintro e w2 ⟨rfl, hb2⟩; have HB2 := Lib.hid hb2; clear hb2)
            go_roundw
            case rel => exact ⟨2, rfl, Lib.hid ⟨((HS.out.below HB2.out).alloc _), (HPE.out.below HB2.out).alloc _, (.inr (.inr (.inl ⟨rfl, hn6, hq⟩)))⟩⟩
            case measure => simp [intOf]
        · have e4 : ((7 : Int) == n) = false := by simp; omega
          go_wp2_with (go_at_call 128; (with_reducible refine (find_ev g _ HG.out 2 1 7 (by kernel_rfl)).mono ?_); rintro e w2 ⟨rfl, hb2⟩; have HB2 := Lib.hid hb2; clear hb2)
          go_roundw
          case rel => exact ⟨3, rfl, Lib.hid ⟨((HS.out.below HB2.out).alloc _), (HPE.out.below HB2.out).alloc _, (.inr (.inr (.inr (.inl ⟨rfl, hn6, hn7⟩))))⟩⟩
          case measure => simp [intOf]
        · have e4 : ((6 : Int) == n) = false := by simp; omega
          go_wp2_with (go_at_call 128; (with_reducible refine (find_ev g _ HG.out 1 0 6 (by kernel_rfl)).mono ?_); rintro e w2 ⟨rfl, hb2⟩; have HB2 := Lib.hid hb2; clear hb2)
          go_roundw
          case rel => exact ⟨4, rfl, Lib.hid ⟨((HS.out.below HB2.out).alloc _), (HPE.out.below HB2.out).alloc _, (.inr (.inr (.inr (.inr ⟨rfl, hn6, hn7⟩))))⟩⟩
          case measure => simp [intOf]
        · go_wp2
          go_ret
          exact ⟨by rw [HRR.out, show decide (3 ≤ n) = false by simp; omega]; rfl, HS.out.2.2.2⟩
end Go.Proofs.YtjlpjpjodhkpdaaGreatDoor
namespace Go.Proofs.YtjlpjpjodhkpdaaGreatDoor
open Go.RowKit Go.Proofs.YtjlpjpjodhkpdaaGreatDoor.Q Go.Proofs.YtjlpjpjodhkpdaaGreatDoorW.PrintWords
theorem infoEdgeF : (Tryz.prog.info? 32).map (fun i => (i.zero, i.size, i.bytes)) = some (some (.agg #[.int .i64 0, .int .i64 0, .int .i64 0, .int .i64 0, .int .i64 0]), 5, 40) := by kernel_rfl
theorem Pre.kept_old {W W' : World} {g t b e s n : Nat} {cs xs : List Value} {v : Value} {o : Obj} (h : Pre W g t cs) (hlt : g < b) (ho : W.ownsRow b e s v n xs) (hg : (W.alloc o).grownBy W' v.ownBlock) : Pre W' g t cs :=
 (h.alloc o).kept hg (fun e => by have := row_low ho g e.symm; omega)
def FlS (gs g1 g2 : Nat) (w W : World) : Prop := Pre W gs 109 (step1 g1 ++ step2 g2) ∧ Pre W g1 32 edge1 ∧ Pre W g2 32 edge2 ∧ Below w.heap.size w W ∧ (gs < w.heap.size ∧ g1 < w.heap.size ∧ g2 < w.heap.size)
theorem FlS.app {gs g1 g2 : Nat} {w W W' : World} (h : FlS gs g1 g2 w W) {n : Nat} {v : Value} {xs : List Value} {o : Obj} (ho : W.ownsRow w.heap.size 32 5 v n xs) (hg : (W.alloc o).grownBy W' v.ownBlock) : FlS gs g1 g2 w W' :=
 ⟨h.1.kept_old h.2.2.2.2.1 ho hg, h.2.1.kept_old h.2.2.2.2.2.1 ho hg, h.2.2.1.kept_old h.2.2.2.2.2.2 ho hg, below_row h.2.2.2.1 ho hg, h.2.2.2.2⟩
theorem flat_c (gs cs g1 g2 : Nat) (w : World) (hs : Pre w gs 109 (step1 g1 ++ step2 g2)) (h1 : Pre w g1 32 edge1) (h2 : Pre w g2 32 edge2) :
 Calls Tryz.prog 96 #[.slice (some ⟨gs, 0, none⟩) 2 cs] w fun e w' => (∃ ge c, 2 ≤ c ∧ e = .returned (.slice (some ⟨ge, 0, none⟩) 2 c) ∧ Pre w' ge 32 (edge1 ++ edge2)) ∧ Below w.heap.size w w' := by
 obtain ⟨i0, hi0, hz0, hz1, hz2⟩ := info_parts infoEdgeF
 have HS := Lib.hid (show FlS gs g1 g2 w w from ⟨hs, h1, h2, Below.refl _ _, hs.lt, h1.lt, h2.lt⟩)
 clear hs h1 h2
 go_enter Tryz.func96, Tryz.ntmps96
 go_wp2
 go_loopw [3, 4] (fun x y v => ∃ i : Int, y = .int .i64 i ∧ Hid (FlS gs g1 g2 w v ∧ ((i = 0 ∧ x = .slice none 0 0) ∨ (i = 1 ∧ ∃ g c, x = .slice (some ⟨g, 0, none⟩) 1 c ∧ v.ownsRow w.heap.size 32 5 x 1 edge1) ∨ (i = 2 ∧ ∃ g c, x = .slice (some ⟨g, 0, none⟩) 2 c ∧ v.ownsRow w.heap.size 32 5 x 2 (edge1 ++ edge2))))) (fun _ y _ => (3 - intOf y).toNat)
 case atStart => exact ⟨0, rfl, Lib.hid ⟨HS.out, .inl ⟨rfl, rfl⟩⟩⟩
 case round =>
  clear HS
  obtain ⟨i, rfl, HI⟩ := hrel
  obtain ⟨hS, hi⟩ := HI.out
  have HS := Lib.hid hS
  have hzr := hS.2.2.2.1.size
  have t2 := hS.1.cell (i := 2) rfl; have t5 := hS.1.cell (i := 5) rfl
  clear HI hS
  obtain ⟨wo, rfl⟩ : ∃ wo : World, wo = wr := ⟨_, rfl⟩
  rcases hi with ⟨rfl, rfl⟩ | ⟨rfl, g, c, rfl, ho⟩ | ⟨rfl, g, c, rfl, ho⟩
  · have HO := Lib.hid (World.ownsRow_nil wo w.heap.size 32 5)
    have e0 := HS.out.2.1.cell (i := 0) rfl; have e1 := HS.out.2.1.cell (i := 1) rfl; have e2 := HS.out.2.1.cell (i := 2) rfl; have e3 := HS.out.2.1.cell (i := 3) rfl; have e4 := HS.out.2.1.cell (i := 4) rfl
    go_wp2
    go_loopw [3, 5] (fun x y v => ∃ k : Int, y = .int .i64 k ∧ Hid ((k = 0 ∧ x = (.slice none 0 0) ∧ v = wo) ∨ (k = 1 ∧ FlS gs g1 g2 w v ∧ ∃ g c, x = .slice (some ⟨g, 0, none⟩) 1 c ∧ v.ownsRow w.heap.size 32 5 x 1 (edge1)))) (fun _ y _ => (2 - intOf y).toNat)
    case atStart => exact ⟨0, rfl, Lib.hid (.inl ⟨rfl, rfl, rfl⟩)⟩
    case round =>
     obtain ⟨k, rfl, HK⟩ := hrel
     have hk := HK.out
     clear HK
     rcases hk with ⟨rfl, rfl, rfl⟩ | ⟨rfl, hS, g', c', rfl, ho⟩
     · go_wp2_with (at_builtin; refine wpList_append_own_at _ rfl _ _ 25 rfl w.heap.size 32 i0 (.agg #[.int .i64 0, .int .i64 0, .int .i64 0, .int .i64 0, .int .i64 0]) 5 40 Tryz.underlying25 hi0 hz0 hz1 hz2 rfl (by decide) (.slice none 0 0) 0 [] rfl (HO.out.alloc _) _ 1 1 edge1 rfl rfl (cells_new_at _ _ _ _ (by simp)) (by simp [Value.oneCell', edge1, edge2]) (by unfold maxLen; omega) (by omega) (by simp; omega) ?_; intro v1 w1 hown1 hgrow1 _ hlies1; obtain ⟨gl, cl, rfl⟩ := ownsRow_succ hown1; have HS1 := Lib.hid (HS.out.app HO.out hgrow1); have HO1 := Lib.hid hown1; clear hown1 hgrow1 hlies1)
       go_roundw
       case rel => exact ⟨1, rfl, Lib.hid (.inr ⟨rfl, HS1.out, gl, cl, rfl, HO1.out⟩)⟩
       case measure => simp [intOf]
     · have HSn := Lib.hid hS; have HOn := Lib.hid ho
       have t2' := hS.1.cell (i := 2) rfl; have t5' := hS.1.cell (i := 5) rfl
       clear hS ho
       go_wp2
       go_roundw
       case rel => exact ⟨1, rfl, Lib.hid ⟨HSn.out, .inr (.inl ⟨rfl, g', c', rfl, HOn.out⟩)⟩⟩
       case measure => simp [intOf]
  · have HO := Lib.hid ho; clear ho
    have e0 := HS.out.2.2.1.cell (i := 0) rfl; have e1 := HS.out.2.2.1.cell (i := 1) rfl; have e2 := HS.out.2.2.1.cell (i := 2) rfl; have e3 := HS.out.2.2.1.cell (i := 3) rfl; have e4 := HS.out.2.2.1.cell (i := 4) rfl
    go_wp2
    go_loopw [3, 5] (fun x y v => ∃ k : Int, y = .int .i64 k ∧ Hid ((k = 0 ∧ x = (.slice (some ⟨g, 0, none⟩) 1 c) ∧ v = wo) ∨ (k = 1 ∧ FlS gs g1 g2 w v ∧ ∃ g c, x = .slice (some ⟨g, 0, none⟩) 2 c ∧ v.ownsRow w.heap.size 32 5 x 2 (edge1 ++ edge2)))) (fun _ y _ => (2 - intOf y).toNat)
    case atStart => exact ⟨0, rfl, Lib.hid (.inl ⟨rfl, rfl, rfl⟩)⟩
    case round =>
     obtain ⟨k, rfl, HK⟩ := hrel
     have hk := HK.out
     clear HK
     rcases hk with ⟨rfl, rfl, rfl⟩ | ⟨rfl, hS, g', c', rfl, ho⟩
     · go_wp2_with (at_builtin; refine wpList_append_own_at _ rfl _ _ 25 rfl w.heap.size 32 i0 (.agg #[.int .i64 0, .int .i64 0, .int .i64 0, .int .i64 0, .int .i64 0]) 5 40 Tryz.underlying25 hi0 hz0 hz1 hz2 rfl (by decide) (.slice (some ⟨g, 0, none⟩) 1 c) 1 edge1 rfl (HO.out.alloc _) _ 1 1 edge2 rfl rfl (cells_new_at _ _ _ _ (by simp)) (by simp [Value.oneCell', edge1, edge2]) (by unfold maxLen; omega) (by omega) (by simp; omega) ?_; intro v1 w1 hown1 hgrow1 _ hlies1; obtain ⟨gl, cl, rfl⟩ := ownsRow_succ hown1; have HS1 := Lib.hid (HS.out.app HO.out hgrow1); have HO1 := Lib.hid hown1; clear hown1 hgrow1 hlies1)
       go_roundw
       case rel => exact ⟨1, rfl, Lib.hid (.inr ⟨rfl, HS1.out, gl, cl, rfl, HO1.out⟩)⟩
       case measure => simp [intOf]
     · have HSn := Lib.hid hS; have HOn := Lib.hid ho
       have t2' := hS.1.cell (i := 2) rfl; have t5' := hS.1.cell (i := 5) rfl
       clear hS ho
       go_wp2
       go_roundw
       case rel => exact ⟨2, rfl, Lib.hid ⟨HSn.out, .inr (.inr ⟨rfl, g', c', rfl, HOn.out⟩)⟩⟩
       case measure => simp [intOf]
  · have HO := Lib.hid ho
    clear ho
    go_wp2
    go_ret
    exact ⟨⟨g, c, (row_cap HO.out).1, rfl, Pre.of_own HO.out⟩, HS.out.2.2.2.1⟩
end Go.Proofs.YtjlpjpjodhkpdaaGreatDoor
namespace Go.Proofs.YtjlpjpjodhkpdaaGreatDoor
open Go.RowKit Go.Proofs.YtjlpjpjodhkpdaaGreatDoor.Q Go.Proofs.YtjlpjpjodhkpdaaGreatDoorW.PrintWords
theorem ints2_of_R {W : World} {b : Nat} {ok : Nat → Prop} {v : Value} {x y : Int} (h : Kd.R (Kd.int .i64) 3 W b ok v [x, y]) : ∃ g c, 2 ≤ c ∧ v = .slice (some ⟨g, 0, none⟩) 2 c ∧ Pre W g 3 [.int .i64 x, .int .i64 y] := by
 have ho : W.ownsRow b 3 1 v 2 [.int .i64 x, .int .i64 y] := Kd.own_of_R (h1 := fun _ => rfl) h
 obtain ⟨g, c, rfl⟩ := ownsRow_succ ho
 exact ⟨g, c, (row_cap ho).1, rfl, Pre.of_own ho⟩
theorem nodes_ev (g : Nat) (w : World) (hg : H0 g w) : Calls Tryz.prog 94 #[.slice (some ⟨g, 0, none⟩) 8 8] w fun e w' => (∃ gn c, 2 ≤ c ∧ e = .returned (.slice (some ⟨gn, 0, none⟩) 2 c) ∧ Pre w' gn 3 [.int .i64 1, .int .i64 2]) ∧ Below w.heap.size w w' :=
 (cartoucheref10_Nodes.calls 3100 (some ⟨g, 0, none⟩) 8 h0 [1, 2] w (kc0 hg) (Nat.le_refl _) (by kernel_rfl)).mono fun e w' ⟨v, he, hr, hb⟩ => by
   obtain ⟨g, c, hc, rfl, hp⟩ := ints2_of_R hr
   exact ⟨⟨g, c, hc, he, hp⟩, hb⟩
def vZero : List Value := [.int .i64 0, .bool false, .slice none 0 0, .int .i64 0, .int .i64 0, .int .i64 0, .slice none 0 0]
def JuS (g : Nat) (w U : World) : Prop := H0 g U ∧ RowIs U w.heap.size 27 vZero ∧ Below w.heap.size w U
theorem JuS.below {g : Nat} {w U U' : World} (h : JuS g w U) (hb : Below U.heap.size U U') : JuS g w U' := ⟨h.1.below hb, h.2.1.below hb, below_step h.2.2 hb⟩
theorem grown_setCell13 (w : World) (b i : Nat) (v : Value) : w.grownBy (w.setCell ⟨b, i, none⟩ v) (some b) :=
 ⟨rfl, rfl, rfl, by simp [World.setCell], fun k _ hk => Below.heap_setCell _ _ _ _ (fun e => hk (by simp [e]))⟩
theorem Pre.setCell {W : World} {g t b i : Nat} {cs : List Value} {v : Value} (h : Pre W g t cs) (hne : g ≠ b) : Pre (W.setCell ⟨b, i, none⟩ v) g t cs := h.kept (grown_setCell13 W b i v) (fun e => hne (Option.some.inj e))
theorem Pre.ne_type {W : World} {g t b u : Nat} {cs ds : List Value} (h : Pre W g t cs) (k : Pre W b u ds) (hne : t ≠ u) : g ≠ b := by
 rintro rfl
 obtain ⟨r, h⟩ := h
 obtain ⟨q, k⟩ := k
 rw [h] at k
 simp only [Option.some.injEq, Obj.cells.injEq] at k
 exact hne k.2.1
theorem steps_out {b : Nat} {x : Value} {W : World} (h : StepsAt b 2 x W) : ∃ g c g1 g2, x = .slice (some ⟨g, 0, none⟩) 2 c ∧ 2 ≤ c ∧ Pre W g 109 (step1 g1 ++ step2 g2) ∧ Pre W g1 32 edge1 ∧ Pre W g2 32 edge2 := by
 rcases h with ⟨h, _⟩ | ⟨h, _⟩ | ⟨_, g, c, g1, g2, rfl, ho, h1, h2⟩
 · cases h
 · cases h
 · exact ⟨g, c, g1, g2, rfl, (row_cap ho).1, Pre.of_own ho, h1, h2⟩
theorem judge_c (g : Nat) (w : World) (hg : H0 g w) :
 Calls Tryz.prog 61 #[.slice (some ⟨g, 0, none⟩) 8 8, .int .i64 1] w fun e w' => (∃ gr cr, e = .returned (.tuple #[.agg #[.int .i64 1, .bool false, .slice none 0 0, .int .i64 0, .int .i64 0, .int .i64 0, .slice (some ⟨gr, 0, none⟩) 2 cr], .int .i64 0]) ∧ 2 ≤ cr ∧ Pre w' gr 32 (edge1 ++ edge2)) ∧ Below w.heap.size w w' := by
 have HJ0 := Lib.hid (show JuS g w (w.alloc (.cells #[.int .i64 0, .bool false, .slice none 0 0, .int .i64 0, .int .i64 0, .int .i64 0, .slice none 0 0] 27)) from ⟨RowIs.alloc hg _, RowIs.new _ _ _, below_alloc (Below.refl _ _) _⟩)
 have HG0 := Lib.hid HJ0.out.1
 clear hg
 go_enter Tryz.func61, Tryz.ntmps61
 go_wp2_with (first
  | (go_at_call 18; (with_reducible refine (formed_h0 g _ HG0.out).mono ?_); rintro e u1 ⟨rfl, hb⟩; have HJ1 := Lib.hid (HJ0.out.below hb); have HG1 := Lib.hid HJ1.out.1; clear hb)
  | (go_at_call 57; (with_reducible refine (all9_h0 g _ HG1.out).mono ?_); rintro e u2 ⟨rfl, hb⟩; have HJ2 := Lib.hid (HJ1.out.below hb); have HG2 := Lib.hid HJ2.out.1; clear hb)
  | (go_at_call 59; (with_reducible refine (edges_c g _ HG2.out).mono ?_); rintro e u3 ⟨⟨ge, ce, hce, rfl, he⟩, hb⟩; have HJ3 := Lib.hid (HJ2.out.below hb); have HE3 := Lib.hid he; clear hb he)
  | (go_at_call 58; (with_reducible refine (steps_c ge ce _ HE3.out).mono ?_); rintro e u4 ⟨⟨x, rfl, hx⟩, hb⟩; obtain ⟨gs, cs, g1, g2, rfl, hcs, hs, h1, h2⟩ := steps_out hx; have HJ4 := Lib.hid (HJ3.out.below hb); have HG4 := Lib.hid HJ4.out.1; have HS4 := Lib.hid hs; have H14 := Lib.hid h1; have H24 := Lib.hid h2; clear hb hx hs h1 h2)
  | (go_at_call 94; (with_reducible refine (nodes_ev g _ HG4.out).mono ?_); rintro e u5 ⟨⟨gn, cn, hcn, rfl, hn⟩, hb⟩; have HJ5 := Lib.hid (HJ4.out.below hb); have HN5 := Lib.hid hn; have HS5 := Lib.hid (HS4.out.below hb); have H15 := Lib.hid (H14.out.below hb); have H25 := Lib.hid (H24.out.below hb); clear hb hn)
  | (go_at_call 93; (with_reducible refine (order_c gn cn gs cs g1 g2 hcn _ HN5.out HS5.out).mono ?_); rintro e u6 ⟨rfl, hb⟩; have HJ6 := Lib.hid (HJ5.out.below hb); have HS6 := Lib.hid (HS5.out.below hb); have H16 := Lib.hid (H15.out.below hb); have H26 := Lib.hid (H25.out.below hb); clear hb)
  | (go_at_call 95; (with_reducible refine (ring_c gs cs g1 g2 _ HS6.out).mono ?_); rintro e u7 ⟨⟨gt, ct, hct, rfl, ht⟩, hb⟩; have HJ7 := Lib.hid (HJ6.out.below hb); have HS7 := Lib.hid ht; have H17 := Lib.hid (H16.out.below hb); have H27 := Lib.hid (H26.out.below hb); clear hb ht)
  | (go_at_call 96; (with_reducible refine (flat_c gt ct g1 g2 _ HS7.out H17.out H27.out).mono ?_); rintro e u8 ⟨⟨gr, cr, hcr, rfl, hr⟩, hb⟩; have HJ8 := Lib.hid (HJ7.out.below hb); have HR8 := Lib.hid hr; have hz := HJ8.out.2.1; have z0 := hz.cell (i := 0) rfl; have z1 := hz.cell (i := 1) rfl; have z2 := hz.cell (i := 2) rfl; have z3 := hz.cell (i := 3) rfl; have z4 := hz.cell (i := 4) rfl; have z5 := hz.cell (i := 5) rfl; have z6 := hz.cell (i := 6) rfl; have f0 := hz.frozen 0; have f1 := hz.frozen 1; have f2 := hz.frozen 2; have f3 := hz.frozen 3; have f4 := hz.frozen 4; have f5 := hz.frozen 5; have f6 := hz.frozen 6; clear hb hr hz))
 refine bodyPost_ret (v := .tuple #[.agg #[.int .i64 1, .bool false, .slice none 0 0, .int .i64 0, .int .i64 0, .int .i64 0, .slice (some ⟨gr, 0, none⟩) 2 cr], .int .i64 0]) (by simp [results, Tryz.results61, go_sem, z0, z1, z2, z3, z4, z5, z6]) rfl ⟨⟨gr, cr, rfl, hcr, ?_⟩, ?_⟩
 · have hne := HR8.out.ne_type (Pre.of_row HJ8.out.2.1) (by decide)
   exact ((((((HR8.out.setCell hne).setCell hne).setCell hne).setCell hne).setCell hne).setCell hne).setCell hne
 · exact below_set (below_set (below_set (below_set (below_set (below_set (below_set HJ8.out.2.2 (Nat.le_refl _)) (Nat.le_refl _)) (Nat.le_refl _)) (Nat.le_refl _)) (Nat.le_refl _)) (Nat.le_refl _)) (Nat.le_refl _)
end Go.Proofs.YtjlpjpjodhkpdaaGreatDoor
namespace Go.Proofs.YtjlpjpjodhkpdaaGreatDoor
open Go.RowKit Go.Proofs.YtjlpjpjodhkpdaaGreatDoor.Q Go.Proofs.YtjlpjpjodhkpdaaGreatDoorW.PrintWords
theorem wanted_t (g gr cr : Nat) (w : World) (hg : H0 g w) (hr : Pre w gr 32 (edge1 ++ edge2)) (n : Nat) (h3 : 3 ≤ n) (h8 : n < 8) :
 Calls Tryz.prog 98 #[.slice (some ⟨g, 0, none⟩) 8 8, .agg #[.int .i64 1, .bool false, .slice none 0 0, .int .i64 0, .int .i64 0, .int .i64 0, .slice (some ⟨gr, 0, none⟩) 2 cr], .int .i64 n] w fun e w' => e = .returned (.bool true) ∧ Below w.heap.size w w' :=
 (wanted_c g gr cr w hg hr n (by omega) (by omega)).mono fun e w' ⟨he, hb⟩ => ⟨by rw [he]; simp; omega, hb⟩
theorem wanted_f (g gr cr : Nat) (w : World) (hg : H0 g w) (hr : Pre w gr 32 (edge1 ++ edge2)) (n : Nat) (h3 : n < 3) :
 Calls Tryz.prog 98 #[.slice (some ⟨g, 0, none⟩) 8 8, .agg #[.int .i64 1, .bool false, .slice none 0 0, .int .i64 0, .int .i64 0, .int .i64 0, .slice (some ⟨gr, 0, none⟩) 2 cr], .int .i64 n] w fun e w' => e = .returned (.bool false) ∧ Below w.heap.size w w' :=
 (wanted_c g gr cr w hg hr n (by omega) (by omega)).mono fun e w' ⟨he, hb⟩ => ⟨by rw [he]; simp; omega, hb⟩
def nums (n : Nat) : List Value := (List.range (n - 3)).map fun k => .int .i64 ((k + 3 : Nat) : Int)
theorem nums_low {n : Nat} (h : n < 3) : nums (n + 1) = nums n := by unfold nums; rw [show n + 1 - 3 = n - 3 by omega]
theorem nums_succ {n : Nat} (h : 3 ≤ n) : nums (n + 1) = nums n ++ [.int .i64 (n : Int)] := by
 unfold nums
 rw [show n + 1 - 3 = n - 3 + 1 by omega, List.range_succ, List.map_append, List.map_cons, List.map_nil, show n - 3 + 3 = n by omega]
theorem nums_8 : nums 8 = [.int .i64 3, .int .i64 4, .int .i64 5, .int .i64 6, .int .i64 7] := rfl
theorem own_under {W W' : World} {b e s n : Nat} {v : Value} {xs : List Value} (h : W.ownsRow b e s v n xs) (hb : Below W.heap.size W W') : W'.ownsRow b e s v n xs := by
 refine ⟨h.1, ?_⟩
 rcases h.2 with k | ⟨g, cap, cur, e1, h1, h2, h3, h4, h5, h6⟩
 · exact .inl k
 · exact .inr ⟨g, cap, cur, e1, h1, (hb.block g (Array.getElem?_eq_some_iff.1 h2).1).trans h2, h3, h4, h5, h6⟩
theorem needs_low {W : World} {b n : Nat} {v : Value} (h : W.ownsRow b 3 1 v (n - 3) (nums n)) (h3 : n < 3) : W.ownsRow b 3 1 v (n + 1 - 3) (nums (n + 1)) := by
 rw [nums_low h3, show n + 1 - 3 = n - 3 by omega]; exact h
theorem needs_next {W : World} {b n : Nat} {v : Value} (h : W.ownsRow b 3 1 v (n - 3 + 1) (nums n ++ [.int .i64 (n : Int)])) (h3 : 3 ≤ n) : W.ownsRow b 3 1 v (n + 1 - 3) (nums (n + 1)) := by
 rw [nums_succ h3, show n + 1 - 3 = n - 3 + 1 by omega]; exact h
theorem needs_c (g gr cr : Nat) (w : World) (hg : H0 g w) (hr : Pre w gr 32 (edge1 ++ edge2)) :
 Calls Tryz.prog 63 #[.slice (some ⟨g, 0, none⟩) 8 8, .agg #[.int .i64 1, .bool false, .slice none 0 0, .int .i64 0, .int .i64 0, .int .i64 0, .slice (some ⟨gr, 0, none⟩) 2 cr]] w fun e w' => (∃ gn c, e = .returned (.slice (some ⟨gn, 0, none⟩) 5 c) ∧ w'.ownsRow w.heap.size 3 1 (.slice (some ⟨gn, 0, none⟩) 5 c) 5 [.int .i64 3, .int .i64 4, .int .i64 5, .int .i64 6, .int .i64 7]) ∧ Below w.heap.size w w' := by
 obtain ⟨i0, hi0, hz0, hz1, hz2⟩ := info_parts infoInt
 have HS := Lib.hid (show WaS g gr cr w.heap.size w (w.alloc (.cells #[.int .i64 1, .bool false, .slice none 0 0, .int .i64 0, .int .i64 0, .int .i64 0, .slice (some ⟨gr, 0, none⟩) 2 cr] 27)) from ⟨RowIs.alloc hg _, Pre.new w 27 (vCells gr cr), hr.alloc _, below_alloc (Below.refl _ _) _⟩)
 clear hg hr
 go_enter Tryz.func63, Tryz.ntmps63
 go_wp2
 go_loopw [5, 6] (fun x y wr => ∃ n : Nat, y = .int .i64 n ∧ n ≤ 8 ∧ Hid (WaS g gr cr w.heap.size w wr ∧ wr.ownsRow w.heap.size 3 1 x (n - 3) (nums n))) (fun _ y _ => (9 - intOf y).toNat)
 case atStart => exact ⟨0, rfl, by decide, Lib.hid ⟨HS.out, World.ownsRow_nil _ _ _ _⟩⟩
 case round =>
  clear HS
  obtain ⟨n, rfl, hn, HI⟩ := hrel
  obtain ⟨hS, ho⟩ := HI.out
  have HS := Lib.hid hS; have HO := Lib.hid ho; have HG := Lib.hid hS.1; have HR := Lib.hid hS.2.2.1
  have hp := hS.2.1
  have z0 := hp.cell (i := 0) rfl; have z1 := hp.cell (i := 1) rfl; have z2 := hp.cell (i := 2) rfl; have z3 := hp.cell (i := 3) rfl; have z4 := hp.cell (i := 4) rfl; have z5 := hp.cell (i := 5) rfl; have z6 := hp.cell (i := 6) rfl
  clear HI hS ho hp
  obtain ⟨wo, rfl⟩ : ∃ wo : World, wo = wr := ⟨_, rfl⟩
  by_cases h8 : n < 8
  · by_cases h3 : n < 3
    · go_wp2_with (go_at_call 98; (with_reducible refine (wanted_f g gr cr _ HG.out HR.out n h3).mono ?_); rintro e w1 ⟨rfl, hb⟩; have HS1 := Lib.hid (HS.out.below hb); have HO1 := Lib.hid (own_under HO.out hb); clear hb)
      go_roundw
      case rel => exact ⟨n + 1, by go_num, by omega, Lib.hid ⟨HS1.out, needs_low HO1.out h3⟩⟩
      case measure => simp [intOf]; omega
    · have h3' : 3 ≤ n := by omega
      go_wp2_with (first
       | (go_at_call 98; (with_reducible refine (wanted_t g gr cr _ HG.out HR.out n h3' h8).mono ?_); rintro e w1 ⟨rfl, hb⟩; have HS1 := Lib.hid (HS.out.below hb); have HO1 := Lib.hid (own_under HO.out hb); have hzw := HS1.out.2.2.2.size; clear hb)
       | (at_builtin; refine wpList_append_own_at _ rfl _ _ 22 rfl w.heap.size 3 i0 (.int .i64 0) 1 8 Tryz.underlying22 hi0 hz0 hz1 hz2 rfl (by decide) u5 (n - 3) (nums n) rfl (HO1.out.alloc _) ⟨w1.heap.size, 0, none⟩ 1 1 [.int .i64 n] rfl rfl (cells_new_at _ _ _ _ (by simp)) (by simp [Value.oneCell']) (by unfold maxLen; omega) (by omega) (by simp; omega) ?_; intro v2 w2 hown2 hgrow2 _ _; have HS2 := Lib.hid (HS1.out.app HO1.out hgrow2); have HO2 := Lib.hid hown2; clear hown2 hgrow2))
      go_roundw
      case rel => exact ⟨n + 1, by go_num, by omega, Lib.hid ⟨HS2.out, needs_next HO2.out h3'⟩⟩
      case measure => simp [intOf]; omega
  · have e8 : n = 8 := by omega
    subst e8
    have ho := HO.out
    rw [nums_8] at ho
    obtain ⟨gn, c, rfl⟩ := ownsRow_succ ho
    have HO8 := Lib.hid ho
    clear ho HO
    go_wp2
    go_ret
    exact ⟨⟨gn, c, rfl, HO8.out⟩, HS.out.2.2.2⟩
end Go.Proofs.YtjlpjpjodhkpdaaGreatDoor
namespace Go.Proofs.YtjlpjpjodhkpdaaGreatDoor
open Go.RowKit Go.Proofs.YtjlpjpjodhkpdaaGreatDoor.Q Go.Proofs.YtjlpjpjodhkpdaaGreatDoorW.PrintWords
def seedS : ByteArray := ⟨#[115]⟩
def kt : ByteArray := ⟨#[89, 38, 24, 120, 188, 207, 31, 249, 206, 120, 19, 236, 116, 116, 241, 216, 148, 107, 17, 88, 98, 132, 50, 13, 131, 23, 164, 58, 210, 249, 178, 160]⟩
def vx : ByteArray := ⟨#[25, 222, 178, 63, 147, 186, 167, 18, 113, 93, 124, 234, 31, 156, 29, 47, 222, 176, 185, 230, 97, 244, 49, 0, 27, 165, 179, 9, 80, 42, 108, 172]⟩
def vy : ByteArray := ⟨#[186, 250, 234, 124, 131, 8, 189, 235, 104, 153, 137, 253, 222, 88, 190, 124, 96, 71, 11, 207, 32, 201, 195, 99, 12, 136, 242, 121, 187, 46, 152, 19]⟩
def r0 : List Evt := [⟨1, 1, ⟨#[]⟩, ⟨#[]⟩⟩, ⟨1, 2, ⟨#[]⟩, ⟨#[]⟩⟩, ⟨2, 1, kt, ⟨#[]⟩⟩, ⟨2, 2, kt, ⟨#[]⟩⟩, ⟨3, 1, kt, vx⟩, ⟨3, 2, kt, vy⟩, ⟨4, 1, ⟨#[]⟩, ⟨#[]⟩⟩, ⟨4, 2, ⟨#[]⟩, ⟨#[]⟩⟩]
theorem all7_val : cartoucheref07_All.f 100 seedS h0 = some (r0, 0) := by kernel_rfl
theorem all7_c (g : Nat) (w : World) (hg : H0 g w) : Calls Tryz.prog 62 #[.string ⟨#[115]⟩, .slice (some ⟨g, 0, none⟩) 8 8] w fun e w' => (∃ v, e = .returned (.tuple #[v, .int .i64 0]) ∧ Kd.R k53 53 w' w.heap.size (fun _ => True) v r0) ∧ Below w.heap.size w w' :=
 (cartoucheref07_All.calls 100 seedS (some ⟨g, 0, none⟩) 8 h0 r0 0 w (kc0 hg) (Nat.le_refl _) all7_val).mono fun e w' ⟨v, he, hr, hb⟩ => ⟨⟨v, he, hr⟩, hb⟩
end Go.Proofs.YtjlpjpjodhkpdaaGreatDoor
