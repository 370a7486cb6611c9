/- The document's example: its certificate's cells; 'place', 'txn'. · The document's example: its certificate may be. · The document's example: the proofs' row, place by place. · The document's example: its certificate. -/
import Derived.Test.YtjlpjpjodhkpdaaGreatDoorSh16
set_option maxHeartbeats 8000000
set_option maxRecDepth 100000
set_option linter.unusedVariables false
set_option linter.unusedSimpArgs false
namespace Go.Proofs.YtjlpjpjodhkpdaaGreatDoor
open Go.RowKit Go.Proofs.YtjlpjpjodhkpdaaGreatDoor.Q Go.Proofs.YtjlpjpjodhkpdaaGreatDoorW.PrintWords
theorem place_c (x : Int) (h0 : 0 ≤ x) (h1 : x ≤ 255) (w : World) : Calls Tryz.prog 77 #[.int .i64 x] w fun e w' => e = .returned (.bool true) ∧ Drawn0 w w' := by
 have e0 : decide (0 ≤ x) = true := decide_eq_true h0
 have e1 : decide (x ≤ 255) = true := decide_eq_true h1
 go_enter Tryz.func77, Tryz.ntmps77
 go_wp2
 go_ret
 exact ⟨by first | rfl | (simp [*]; done), by repeat (first | exact Drawn0.refl _ | apply Drawn0.step)⟩
def evAt (i : Nat) : Evt := r0.getD (i + 3) ⟨0, 0, ⟨#[]⟩, ⟨#[]⟩⟩
theorem may_val (i : Nat) (hi : i < 5) : cartoucheref06_May.f 9 (evAt i).f0 (evAt i).f1 (evAt i).f2 (evAt i).f3 = some true := by
 have hn : i = 0 ∨ i = 1 ∨ i = 2 ∨ i = 3 ∨ i = 4 := by omega
 rcases hn with rfl | rfl | rfl | rfl | rfl
 · exact (show cartoucheref06_May.f 9 (evAt 0).f0 (evAt 0).f1 (evAt 0).f2 (evAt 0).f3 = some true by kernel_rfl)
 · exact (show cartoucheref06_May.f 9 (evAt 1).f0 (evAt 1).f1 (evAt 1).f2 (evAt 1).f3 = some true by kernel_rfl)
 · exact (show cartoucheref06_May.f 9 (evAt 2).f0 (evAt 2).f1 (evAt 2).f2 (evAt 2).f3 = some true by kernel_rfl)
 · exact (show cartoucheref06_May.f 9 (evAt 3).f0 (evAt 3).f1 (evAt 3).f2 (evAt 3).f3 = some true by kernel_rfl)
 · exact (show cartoucheref06_May.f 9 (evAt 4).f0 (evAt 4).f1 (evAt 4).f2 (evAt 4).f3 = some true by kernel_rfl)
theorem may_at (i : Nat) (hi : i < 5) (w : World) : Calls Tryz.prog 29 #[.agg #[.int .i64 (evAt i).f0, .int .i64 (evAt i).f1, .string (evAt i).f2, .string (evAt i).f3]] w fun e w' => e = .returned (.bool true) ∧ Below w.heap.size w w' := by
 exact cartoucheref06_May.calls 9 _ _ _ _ true w (may_val i hi)
def PrfAt (W : World) (gq i : Nat) : Prop := ∃ gp cp, 3 ≤ cp ∧ W.cell? ⟨gq, i * 6, none⟩ = some (.int .i64 ((i + 3 : Nat) : Int)) ∧ W.cell? ⟨gq, i * 6 + 1, none⟩ = some (.int .i64 (evAt i).f0) ∧ W.cell? ⟨gq, i * 6 + 2, none⟩ = some (.int .i64 (evAt i).f1) ∧
 W.cell? ⟨gq, i * 6 + 3, none⟩ = some (.string (evAt i).f2) ∧ W.cell? ⟨gq, i * 6 + 4, none⟩ = some (.string (evAt i).f3) ∧ W.cell? ⟨gq, i * 6 + 5, none⟩ = some (.slice (some ⟨gp, 0, none⟩) 3 cp) ∧
 ∀ k, k < 3 → W.cell? ⟨gp, k, none⟩ = some (.string ((pathOf (i + 3)).getD k ⟨#[]⟩))
theorem PrfAt.below {W W' : World} {gq i : Nat} (h : PrfAt W gq i) (hb : Below W.heap.size W W') : PrfAt W' gq i := by
 obtain ⟨gp, cp, hc, h0, h1, h2, h3, h4, h5, h6⟩ := h
 exact ⟨gp, cp, hc, pw_cell_below hb h0, pw_cell_below hb h1, pw_cell_below hb h2, pw_cell_below hb h3, pw_cell_below hb h4, pw_cell_below hb h5, fun k hk => pw_cell_below hb (h6 k hk)⟩
theorem path_size (i k : Nat) (hk : k < 3) : ((pathOf (i + 3)).getD k ⟨#[]⟩).size = 32 := by
 have hk' : k = 0 ∨ k = 1 ∨ k = 2 := by omega
 unfold pathOf
 split
 · rcases hk' with rfl | rfl | rfl <;> rfl
 · split
   · rcases hk' with rfl | rfl | rfl <;> rfl
   · split
     · rcases hk' with rfl | rfl | rfl <;> rfl
     · split
       · rcases hk' with rfl | rfl | rfl <;> rfl
       · rcases hk' with rfl | rfl | rfl <;> rfl
def certCells (gr cr gq cq : Nat) : List Value := [.string ⟨#[116]⟩, .int .i64 1, .string ⟨#[]⟩, .string rootV, .int .i64 8, .int .i64 1, .bool false, .slice none 0 0, .int .i64 0, .int .i64 0, .int .i64 0, .slice (some ⟨gr, 0, none⟩) 2 cr, .slice (some ⟨gq, 0, none⟩) 5 cq]
def CeS (gr gq : Nat) (W : World) : Prop := Pre W gr 32 (edge1 ++ edge2) ∧ ∀ i, i < 5 → PrfAt W gq i
theorem CeS.below {gr gq : Nat} {W W' : World} (h : CeS gr gq W) (hb : Below W.heap.size W W') : CeS gr gq W' := ⟨h.1.below hb, fun i hi => (h.2 i hi).below hb⟩
end Go.Proofs.YtjlpjpjodhkpdaaGreatDoor
namespace Go.Proofs.YtjlpjpjodhkpdaaGreatDoor
open Go.RowKit Go.Proofs.YtjlpjpjodhkpdaaGreatDoor.Q Go.Proofs.YtjlpjpjodhkpdaaGreatDoorW.PrintWords
def MaS (gr cr gq cq : Nat) (w W : World) : Prop := CeS gr gq W ∧ Pre W w.heap.size 30 (certCells gr cr gq cq) ∧ Pre W (w.heap.size + 1) 27 (vCells gr cr) ∧ Below w.heap.size w W
section
variable {gr cr gq cq : Nat} {w W W' : World}
theorem MaS.below (h : MaS gr cr gq cq w W) (hb : Below W.heap.size W W') : MaS gr cr gq cq w W' := ⟨h.1.below hb, h.2.1.below hb, h.2.2.1.below hb, below_step h.2.2.2 hb⟩
theorem MaS.alloc (h : MaS gr cr gq cq w W) (o : Obj) : MaS gr cr gq cq w (W.alloc o) := h.below (below_alloc (Below.refl _ _) o)
theorem MaS.drewN (h : MaS gr cr gq cq w W) (n : Nat) : MaS gr cr gq cq w (W.drewN n) := h.below (pw_below_drewN (Below.refl _ _) n)
end
theorem may_c (gr cr gq cq : Nat) (hcr : 2 ≤ cr) (hcq : 5 ≤ cq) (w : World) (hS : CeS gr gq w) :
 Calls Tryz.prog 35 #[.agg #[.string ⟨#[116]⟩, .int .i64 1, .string ⟨#[]⟩, .string rootV, .int .i64 8, .int .i64 1, .bool false, .slice none 0 0, .int .i64 0, .int .i64 0, .int .i64 0, .slice (some ⟨gr, 0, none⟩) 2 cr, .slice (some ⟨gq, 0, none⟩) 5 cq]] w fun e w' => e = .returned (.bool true) ∧ Below w.heap.size w w' := by
 have HS0 := Lib.hid hS
 clear hS
 have hrt : rootV.size = 32 := rfl
 go_enter Tryz.func35, Tryz.ntmps35
 go_wp2
 have HS := Lib.hid (show MaS gr cr gq cq w ((w.alloc (.cells #[.string ⟨#[116]⟩, .int .i64 1, .string ⟨#[]⟩, .string rootV, .int .i64 8, .int .i64 1, .bool false, .slice none 0 0, .int .i64 0, .int .i64 0, .int .i64 0, .slice (some ⟨gr, 0, none⟩) 2 cr, .slice (some ⟨gq, 0, none⟩) 5 cq] 30)).alloc (.cells #[.int .i64 1, .bool false, .slice none 0 0, .int .i64 0, .int .i64 0, .int .i64 0, .slice (some ⟨gr, 0, none⟩) 2 cr] 27)) from
  ⟨HS0.out.below (below_alloc (below_alloc (Below.refl _ _) _) _), (Pre.new w 30 (certCells gr cr gq cq)).alloc _, (by have h := Pre.new (w.alloc (.cells (certCells gr cr gq cq).toArray 30)) 27 (vCells gr cr); rw [World.size_alloc] at h; exact h), below_alloc (below_alloc (Below.refl _ _) _) _⟩)
 clear HS0
 go_loop [5] (fun y => y = .int .i64 0) (fun y => 0)
 case atStart => rfl
 case round =>
  subst hrel
  go_wp2
  go_loopw [7] (fun y v => ∃ i : Nat, y = .int .i64 i ∧ i ≤ 2 ∧ Hid (MaS gr cr gq cq w v)) (fun y _ => (3 - intOf y).toNat)
  case atStart => exact ⟨0, rfl, by decide, HS⟩
  case round =>
   clear HS
   obtain ⟨i, rfl, hi, HS⟩ := hrel
   have hS := HS.out
   have z6 := hS.2.2.1.cell (i := 6) rfl
   have r0 := hS.1.1.cell (i := 0) rfl; have r1 := hS.1.1.cell (i := 1) rfl; have r2 := hS.1.1.cell (i := 2) rfl; have r3 := hS.1.1.cell (i := 3) rfl; have r4 := hS.1.1.cell (i := 4) rfl
   have r5 := hS.1.1.cell (i := 5) rfl; have r6 := hS.1.1.cell (i := 6) rfl; have r7 := hS.1.1.cell (i := 7) rfl; have r8 := hS.1.1.cell (i := 8) rfl; have r9 := hS.1.1.cell (i := 9) rfl
   clear hS
   obtain ⟨wo, rfl⟩ : ∃ wo : World, wo = wr := ⟨_, rfl⟩
   have hii : i = 0 ∨ i = 1 ∨ i = 2 := by omega
   rcases hii with rfl | rfl | rfl
   · go_wp2
     go_roundw
     case rel => exact ⟨1, rfl, by decide, Lib.hid (HS.out.alloc _)⟩
     case measure => simp [intOf]
   · go_wp2
     go_roundw
     case rel => exact ⟨2, rfl, by decide, Lib.hid (HS.out.alloc _)⟩
     case measure => simp [intOf]
   · go_wp2
     clear z6 r0 r1 r2 r3 r4 r5 r6 r7 r8 r9 hi
     go_loopw [11] (fun y v => ∃ i : Nat, y = .int .i64 i ∧ i ≤ 5 ∧ Hid (MaS gr cr gq cq w v)) (fun y _ => (6 - intOf y).toNat)
     case atStart => exact ⟨0, rfl, by decide, HS⟩
     case round =>
      clear HS
      obtain ⟨i, rfl, hi, HS⟩ := hrel
      have hS := HS.out
      have z12 := hS.2.1.cell (i := 12) rfl
      have hzr := hS.2.2.2.size
      obtain ⟨wn, rfl⟩ : ∃ wn : World, wn = wr := ⟨_, rfl⟩
      by_cases h5 : i < 5
      · obtain ⟨gp, cp, hcp, c0, c1, c2, c3, c4, c5, hp⟩ := hS.1.2 i h5
        have HB0 := Lib.hid (below_alloc (Below.refl wn.heap.size wn) (.cells #[.int .i64 ((i : Int) + 3), .int .i64 (evAt i).f0, .int .i64 (evAt i).f1, .string (evAt i).f2, .string (evAt i).f3, .slice (some ⟨gp, 0, none⟩) 3 cp] 55))
        have HS1 := Lib.hid (HS.out.below HB0.out)
        have HPB := Lib.hid (show Pre (wn.alloc (.cells #[.int .i64 ((i : Int) + 3), .int .i64 (evAt i).f0, .int .i64 (evAt i).f1, .string (evAt i).f2, .string (evAt i).f3, .slice (some ⟨gp, 0, none⟩) 3 cp] 55)) wn.heap.size 55 [.int .i64 ((i : Int) + 3), .int .i64 (evAt i).f0, .int .i64 (evAt i).f1, .string (evAt i).f2, .string (evAt i).f3, .slice (some ⟨gp, 0, none⟩) 3 cp] from Pre.new wn 55 [.int .i64 ((i : Int) + 3), .int .i64 (evAt i).f0, .int .i64 (evAt i).f1, .string (evAt i).f2, .string (evAt i).f3, .slice (some ⟨gp, 0, none⟩) 3 cp])
        have HP1 := Lib.hid (show ∀ k, k < 3 → (wn.alloc (.cells #[.int .i64 ((i : Int) + 3), .int .i64 (evAt i).f0, .int .i64 (evAt i).f1, .string (evAt i).f2, .string (evAt i).f3, .slice (some ⟨gp, 0, none⟩) 3 cp] 55)).cell? ⟨gp, k, none⟩ = some (.string ((pathOf (i + 3)).getD k ⟨#[]⟩)) from fun k hk => pw_cell_below HB0.out (hp k hk))
        clear hS hp
        have hp0 : (0 : Int) ≤ (i : Int) + 3 := by omega
        have hp1 : (i : Int) + 3 ≤ 255 := by omega
        go_wp2_with (first
         | (go_at_call 77; (with_reducible refine (place_c ((i : Int) + 3) hp0 hp1 _).mono ?_); rintro e w' ⟨rfl, ⟨nd, rfl⟩⟩)
         | (go_at_call 29; (with_reducible refine (may_at i h5 _).mono ?_); rintro e w1 ⟨rfl, hb⟩; have HS2 := Lib.hid ((HS1.out.drewN nd).below hb); have hpb := (HPB.out.drewN nd).below hb; have b5 := hpb.cell (i := 5) rfl; have HP2 := Lib.hid (show ∀ k, k < 3 → w1.cell? ⟨gp, k, none⟩ = some (.string ((pathOf (i + 3)).getD k ⟨#[]⟩)) from fun k hk => pw_cell_below hb (HP1.out k hk)); clear hb hpb))
        clear HP1 HPB HS1 HB0 HS c0 c1 c2 c3 c4 c5
        go_loop [14] (fun y => ∃ k : Nat, y = .int .i64 k ∧ k ≤ 3) (fun y => (4 - intOf y).toNat)
        case atStart => exact ⟨0, rfl, by decide⟩
        case round =>
         obtain ⟨k, rfl, hk⟩ := hrel
         by_cases hk3 : k < 3
         · have pk := HP2.out k hk3
           have hsz := path_size i k hk3
           obtain ⟨s, hs⟩ : ∃ s, s = (pathOf (i + 3)).getD k ⟨#[]⟩ := ⟨_, rfl⟩
           rw [← hs] at pk hsz
           clear hs
           go_wp2
           go_round
           case rel => exact ⟨k + 1, by go_num, by omega⟩
           case measure => simp [intOf]; omega
         · have ek : k = 3 := by omega
           subst ek
           go_wp2
           go_roundw
           case rel =>
            exact ⟨i + 1, by omega, by omega⟩
           case measure => simp [intOf]; omega
      · have e5 : i = 5 := by omega
        subst e5
        clear hS
        go_wp2
        go_ret
        exact ⟨rfl, HS.out.2.2.2⟩
end Go.Proofs.YtjlpjpjodhkpdaaGreatDoor
namespace Go.Proofs.YtjlpjpjodhkpdaaGreatDoor
open Go.RowKit Go.Proofs.YtjlpjpjodhkpdaaGreatDoor.Q Go.Proofs.YtjlpjpjodhkpdaaGreatDoorW.PrintWords
def prf (n gp cp : Nat) : List Value := [.int .i64 ((n : Int) + 3), .int .i64 (evAt n).f0, .int .i64 (evAt n).f1, .string (evAt n).f2, .string (evAt n).f3, .slice (some ⟨gp, 0, none⟩) 3 cp]
def pathRow (n : Nat) : List Value := (pathOf (n + 3)).map .string
def PR (W : World) : Nat → List Value → Prop
 | 0, xs => xs = []
 | n + 1, xs => ∃ ys gp cp, xs = ys ++ prf n gp cp ∧ 3 ≤ cp ∧ Pre W gp 9 (pathRow n) ∧ PR W n ys
theorem PR.length {W : World} : ∀ {n : Nat} {xs : List Value}, PR W n xs → xs.length = n * 6
 | 0, xs, h => by cases h; rfl
 | n + 1, xs, ⟨ys, gp, cp, e, _, _, h⟩ => by
   rw [e, List.length_append, h.length]
   simp [prf]
   omega
theorem PR.keep {W W' : World} (hk : ∀ gp cs, Pre W gp 9 cs → Pre W' gp 9 cs) : ∀ {n : Nat} {xs : List Value}, PR W n xs → PR W' n xs
 | 0, xs, h => h
 | n + 1, xs, ⟨ys, gp, cp, e, hc, hp, h⟩ => ⟨ys, gp, cp, e, hc, hk _ _ hp, h.keep hk⟩
theorem PR.next {W : World} {n gp cp : Nat} {xs : List Value} (h : PR W n xs) (hc : 3 ≤ cp) (hp : Pre W gp 9 (pathRow n)) : PR W (n + 1) (xs ++ prf n gp cp) := ⟨xs, gp, cp, rfl, hc, hp, h⟩
theorem PR.at {W : World} : ∀ {n : Nat} {xs : List Value}, PR W n xs → ∀ i, i < n → ∃ gp cp, 3 ≤ cp ∧ Pre W gp 9 (pathRow i) ∧ ∀ j v, (prf i gp cp)[j]? = some v → xs[i * 6 + j]? = some v
 | 0, xs, h, i, hi => absurd hi (by omega)
 | n + 1, xs, ⟨ys, gp, cp, e, hc, hp, h⟩, i, hi => by
   have hl := h.length
   by_cases hin : i = n
   · subst hin
     refine ⟨gp, cp, hc, hp, fun j v hj => ?_⟩
     rw [e, List.getElem?_append_right (by omega), hl, show i * 6 + j - i * 6 = j by omega]
     exact hj
   · obtain ⟨gp', cp', hc', hp', ha⟩ := h.at i (by omega)
     refine ⟨gp', cp', hc', hp', fun j v hj => ?_⟩
     have h2 := ha j v hj
     rw [e, List.getElem?_append_left (List.getElem?_eq_some_iff.1 h2).1]
     exact h2
theorem pathRow_at (i k : Nat) (hk : k < 3) : (pathRow i)[k]? = some (.string ((pathOf (i + 3)).getD k ⟨#[]⟩)) := by
 have hl := path_len (i + 3)
 unfold pathRow
 rw [List.getElem?_map, List.getElem?_eq_getElem (by omega)]
 simp [List.getD, List.getElem?_eq_getElem (show k < (pathOf (i + 3)).length by omega)]
theorem PR.prfAt {W : World} {n gq : Nat} {xs : List Value} (h : PR W n xs) (hq : Pre W gq 55 xs) (i : Nat) (hi : i < n) : PrfAt W gq i := by
 obtain ⟨gp, cp, hc, hp, ha⟩ := h.at i hi
 exact ⟨gp, cp, hc, hq.cell (ha 0 _ rfl), hq.cell (ha 1 _ rfl), hq.cell (ha 2 _ rfl), hq.cell (ha 3 _ rfl), hq.cell (ha 4 _ rfl), hq.cell (ha 5 _ rfl), fun k hk => hp.cell (pathRow_at i k hk)⟩
end Go.Proofs.YtjlpjpjodhkpdaaGreatDoor
namespace Go.Proofs.YtjlpjpjodhkpdaaGreatDoor
open Go.RowKit Go.Proofs.YtjlpjpjodhkpdaaGreatDoor.Q Go.Proofs.YtjlpjpjodhkpdaaGreatDoorW.PrintWords
theorem all7_s (g : Nat) (w : World) (hg : H0 g w) : Calls Tryz.prog 62 #[.string ⟨#[115]⟩, .slice (some ⟨g, 0, none⟩) 8 8] w fun e w' => (∃ ga c, e = .returned (.tuple #[.slice (some ⟨ga, 0, none⟩) 8 c, .int .i64 0]) ∧ 8 ≤ c ∧ Kd.C k53 w' (some ⟨ga, 0, none⟩) 8 r0) ∧ Below w.heap.size w w' :=
 (all7_c g w hg).mono fun e w' ⟨⟨v, he, hv⟩, hb⟩ => by
   have hv' := hv
   obtain ⟨_, inner, ho, _⟩ := hv'
   obtain ⟨ga, c, rfl⟩ := ownsRow_succ (k := 7) ho
   obtain ⟨_, hc, hC⟩ := Kd.R_reads' hv
   exact ⟨⟨ga, c, he, hc, hC⟩, hb⟩
theorem ev_cells {W : World} {ga : Nat} (h : Kd.C k53 W (some ⟨ga, 0, none⟩) 8 r0) (n : Nat) (hn : n < 5) : W.cell? ⟨ga, (n + 3) * 4, none⟩ = some (.int .i64 (evAt n).f0) ∧ W.cell? ⟨ga, (n + 3) * 4 + 1, none⟩ = some (.int .i64 (evAt n).f1) ∧ W.cell? ⟨ga, (n + 3) * 4 + 2, none⟩ = some (.string (evAt n).f2) ∧ W.cell? ⟨ga, (n + 3) * 4 + 3, none⟩ = some (.string (evAt n).f3) := by
 obtain ⟨_, _, h⟩ := h
 obtain ⟨a, ea, h⟩ := h (by decide)
 cases ea
 have hp : r0[n + 3]? = some (evAt n) := by
  have hn' : n = 0 ∨ n = 1 ∨ n = 2 ∨ n = 3 ∨ n = 4 := by omega
  rcases hn' with rfl | rfl | rfl | rfl | rfl <;> rfl
 obtain ⟨cs, _, hK, hc⟩ := h (n + 3) _ hp
 obtain ⟨_, _, rfl, rfl, _, _, rfl, rfl, _, _, rfl, rfl, rfl⟩ := hK
 have c0 := hc 0 _ rfl
 have c1 := hc 1 _ rfl
 have c2 := hc 2 _ rfl
 have c3 := hc 3 _ rfl
 rw [add0] at c0 c1 c2 c3
 exact ⟨c0, c1, c2, c3⟩
theorem infoProof : (Tryz.prog.info? 55).map (fun i => (i.zero, i.size, i.bytes)) = some (some (.agg #[.int .i64 0, .int .i64 0, .int .i64 0, .string ⟨#[]⟩, .string ⟨#[]⟩, .slice none 0 0]), 6, 80) := by kernel_rfl
def boxCells (gr cr : Nat) (V : Value) : List Value := [.string ⟨#[116]⟩, .int .i64 1, .string ⟨#[]⟩, .string rootV, .int .i64 8, .int .i64 1, .bool false, .slice none 0 0, .int .i64 0, .int .i64 0, .int .i64 0, .slice (some ⟨gr, 0, none⟩) 2 cr, V]
def LoS (w3 : World) (gr cr gn n : Nat) (W : World) : Prop := Below w3.heap.size w3 W ∧ Pre W gn 3 [.int .i64 3, .int .i64 4, .int .i64 5, .int .i64 6, .int .i64 7] ∧
 ∃ V xs, RowIs W w3.heap.size 30 (boxCells gr cr V) ∧ W.ownsRow (w3.heap.size + 1) 55 6 V n xs ∧ PR W n xs
theorem LoS.below {w3 W W' : World} {gr cr gn n : Nat} (h : LoS w3 gr cr gn n W) (hb : Below W.heap.size W W') : LoS w3 gr cr gn n W' := by
 obtain ⟨h0, h1, V, xs, h2, h3, h4⟩ := h
 exact ⟨below_step h0 hb, h1.below hb, V, xs, h2.below hb, own_under h3 hb, h4.keep (fun _ _ k => k.below hb)⟩
theorem needs_cell {W : World} {gn : Nat} (h : Pre W gn 3 [.int .i64 3, .int .i64 4, .int .i64 5, .int .i64 6, .int .i64 7]) (n : Nat) (hn : n < 5) : W.cell? ⟨gn, n, none⟩ = some (.int .i64 ((n : Int) + 3)) := by
 have hn' : n = 0 ∨ n = 1 ∨ n = 2 ∨ n = 3 ∨ n = 4 := by omega
 rcases hn' with rfl | rfl | rfl | rfl | rfl <;> exact h.cell rfl
theorem path_s (A : Option Addr) (c : Nat) (hc : 8 ≤ c) (w : World) (hr : Kd.C Kd.string w A 8 lv) (n : Nat) (h5 : n < 5) : Calls Tryz.prog 26 #[.slice A 8 c, .int .i64 ((n : Int) + 3)] w fun e w' => (∃ gp cp, e = .returned (.tuple #[.slice (some ⟨gp, 0, none⟩) 3 cp, .int .i64 0]) ∧ 3 ≤ cp ∧ Pre w' gp 9 (pathRow n)) ∧ Below w.heap.size w w' :=
 (path_c A c hc w hr (n + 3) (by omega) (by omega)).mono fun e w' ⟨⟨v, he, hv⟩, hb⟩ => by
   have ho : w'.ownsRow w.heap.size 9 1 v (pathOf (n + 3)).length (pathRow n) := Kd.own_of_R (h1 := fun _ => rfl) hv
   rw [path_len] at ho
   obtain ⟨gp, cp, rfl⟩ := ownsRow_succ (k := 2) ho
   exact ⟨⟨gp, cp, he, (row_cap ho).1, Pre.of_own ho⟩, hb⟩
theorem op_append {P : Program} {o : Oper} {a : Act} {w w' : World} {v y r : Value} (s x : Operand) (t : TypeId) (ho : o.op = .call { callee := .builtin .append, args := #[s, x], argTypes := #[t, t] }) (hs : a.eval s = v) (hx : a.eval x = y)
 (hr : (Builtin.append_ #[t, t] o.type #[v, y]).run P w = .ok r w') : (execOp a.eval o).run P w = .ok (.value r) w' := by
 unfold execOp
 simp only [ho, resolve, invoke, builtin, Sem.run_bind, Sem.run_pure, Result.andThen_ok, List.map_toArray, List.map_cons, List.map_nil, hs, hx, hr]
theorem own_slice {W : World} {b t s n : Nat} {V : Value} {xs : List Value} (h : W.ownsRow b t s V n xs) : ∃ A c, V = .slice A n c := by
 rcases h.2 with ⟨e, h0⟩ | ⟨g', cap, cur, e, _⟩
 · exact ⟨none, 0, by rw [e, h0]⟩
 · exact ⟨_, _, e⟩
theorem Pre.type_eq {W : World} {g t t' : Nat} {cs cs' : List Value} (h : Pre W g t cs) (h' : Pre W g t' cs') : t = t' := by
 obtain ⟨r, h⟩ := h
 obtain ⟨r', h'⟩ := h'
 rw [h] at h'
 simp at h'
 exact h'.2
theorem los_next {w3 u1 u2 : World} {gr cr gn n gp cp gg cap : Nat} {V : Value} {xs : List Value} {o : Obj} (h0 : Below w3.heap.size w3 u1) (h1 : Pre u1 gn 3 [.int .i64 3, .int .i64 4, .int .i64 5, .int .i64 6, .int .i64 7]) (hx : RowIs u1 w3.heap.size 30 (boxCells gr cr V))
 (ho : u1.ownsRow (w3.heap.size + 1) 55 6 V n xs) (hpr : PR u1 n xs) (hcp : 3 ≤ cp) (hp : Pre u1 gp 9 (pathRow n)) (hg : (u1.alloc o).drew.grownBy u2 V.ownBlock)
 (hown : u2.ownsRow (w3.heap.size + 1) 55 6 (.slice (some ⟨gg, 0, none⟩) (n + 1) cap) (n + 1) (xs ++ prf n gp cp)) :
 LoS w3 gr cr gn (n + 1) (u2.setCell ⟨w3.heap.size, 12, none⟩ (.slice (some ⟨gg, 0, none⟩) (n + 1) cap)) := by
 have hl : w3.heap.size < u1.heap.size := hx.lt
 have hk : ∀ g t cs, Pre u1 g t cs → t ≠ 55 → Pre u2 g t cs := fun g t cs h hne => ((h.alloc o).drew).kept hg (h.ne_row ho hne)
 have hx2 : RowIs u2 w3.heap.size 30 (boxCells gr cr V) := (hg.block w3.heap.size (by simp; omega) (fun e => by have := row_low ho _ e.symm; omega)).trans (hx.alloc o)
 have hs : ∀ g t cs, Pre u2 g t cs → t ≠ 30 → Pre (u2.setCell ⟨w3.heap.size, 12, none⟩ (.slice (some ⟨gg, 0, none⟩) (n + 1) cap)) g t cs := fun g t cs h hne => h.setCell (h.ne_type (Pre.of_row hx2) hne)
 refine ⟨?_, hs _ _ _ (hk _ _ _ h1 (by decide)) (by decide), _, _, hx2.set 12 _, own_setCell hown (fun e => by have := row_low hown _ e.symm; dsimp only at this; omega) _, ?_⟩
 · exact below_set ((below_drew1 (below_alloc h0 o)).grown hg (by have := h0.size; simp; omega) (fun k hk => by have := row_low ho k hk; omega)) (Nat.le_refl _)
 · exact (hpr.keep (fun g cs h => hs _ _ _ (hk _ _ _ h (by decide)) (by decide))).next hcp (hs _ _ _ (hk _ _ _ hp (by decide)) (by decide))
def FinS (gr gq b : Nat) (xs : List Value) (W : World) : Prop := Pre W gr 32 (edge1 ++ edge2) ∧ Pre W gq 55 xs ∧ PR W 5 xs ∧ ∃ zc, RowIs W b 30 zc
theorem FinS.set {gr gq b : Nat} {xs : List Value} {W : World} (h : FinS gr gq b xs W) (i : Nat) (v : Value) : FinS gr gq b xs (W.setCell ⟨b, i, none⟩ v) := by
 obtain ⟨h0, h1, h2, zc, h3⟩ := h
 have hs : ∀ g t cs, Pre W g t cs → t ≠ 30 → Pre (W.setCell ⟨b, i, none⟩ v) g t cs := fun g t cs h hne => h.setCell (h.ne_type (Pre.of_row h3) hne)
 exact ⟨hs _ _ _ h0 (by decide), hs _ _ _ h1 (by decide), h2.keep (fun g cs h => hs _ _ _ h (by decide)), _, h3.set i v⟩
theorem FinS.below {gr gq b : Nat} {xs : List Value} {W W' : World} (h : FinS gr gq b xs W) (hb : Below W.heap.size W W') : FinS gr gq b xs W' := by
 obtain ⟨h0, h1, h2, zc, h3⟩ := h
 exact ⟨h0.below hb, h1.below hb, h2.keep (fun g cs h => h.below hb), zc, h3.below hb⟩
theorem FinS.ce {gr gq b : Nat} {xs : List Value} {W : World} (h : FinS gr gq b xs W) : CeS gr gq W := ⟨h.1, fun i hi => h.2.2.1.prfAt h.2.1 i hi⟩
def zeroCert : List Value := [.string ⟨#[]⟩, .int .i64 0, .string ⟨#[]⟩, .string ⟨#[]⟩, .int .i64 0, .int .i64 0, .bool false, .slice none 0 0, .int .i64 0, .int .i64 0, .int .i64 0, .slice none 0 0, .slice none 0 0]
theorem make_c (g : Nat) (w : World) (hg : H0 g w) :
 Calls Tryz.prog 31 #[.string ⟨#[116]⟩, .int .i64 1, .string ⟨#[]⟩, .string ⟨#[115]⟩, .slice (some ⟨g, 0, none⟩) 8 8, .int .i64 1] w fun e w' =>
  (∃ gr cr gq cq, e = .returned (.tuple #[.agg #[.string ⟨#[116]⟩, .int .i64 1, .string ⟨#[]⟩, .string rootV, .int .i64 8, .int .i64 1, .bool false, .slice none 0 0, .int .i64 0, .int .i64 0, .int .i64 0, .slice (some ⟨gr, 0, none⟩) 2 cr, .slice (some ⟨gq, 0, none⟩) 5 cq], .int .i64 0]) ∧ 2 ≤ cr ∧ 5 ≤ cq ∧ CeS gr gq w') ∧ Below w.heap.size w w' := by
 obtain ⟨i0, hi0, hz0, hz1, hz2⟩ := info_parts infoProof
 have HG := Lib.hid hg
 have HB0 := Lib.hid (Below.refl w.heap.size w)
 clear hg
 go_enter Tryz.func31, Tryz.ntmps31
 go_wp2_with (first
  | (go_at_call 61; (with_reducible refine (judge_c g _ (HG.out.below (below_alloc HB0.out _))).mono ?_); rintro e w1 ⟨⟨gr, cr, rfl, hcr, hr⟩, hb⟩; have HB1 := Lib.hid (below_step (below_alloc HB0.out _) hb); have HZ1 := Lib.hid ((RowIs.new w 30 zeroCert).below hb); have HR1 := Lib.hid hr; clear hb hr)
  | (go_at_call 62; (with_reducible refine (all7_s g _ (HG.out.below (below_alloc HB1.out _))).mono ?_); rintro e w2 ⟨⟨ga, c, rfl, hc, hC⟩, hb⟩; have HB2 := Lib.hid (below_step (below_alloc HB1.out _) hb); have HZ2 := Lib.hid ((HZ1.out.alloc _).below hb); have HR2 := Lib.hid ((HR1.out.alloc _).below hb); have HC2 := Lib.hid hC; have HV2 := Lib.hid (show Pre w2 w1.heap.size 27 (vCells gr cr) from (Pre.new w1 27 (vCells gr cr)).below hb); clear hb hC)
  | (go_at_call 19; (with_reducible refine (leaves_c (some ⟨ga, 0, none⟩) c hc _ HC2.out).mono ?_); rintro e w3 ⟨⟨B, d, rfl, hd, hL⟩, hb⟩; have HB3 := Lib.hid (below_step HB2.out hb); have HZ3 := Lib.hid (HZ2.out.below hb); have HR3 := Lib.hid (HR2.out.below hb); have HC3 := Lib.hid (Kd.C_below HC2.out hb); have HL3 := Lib.hid hL; have HV3 := Lib.hid (HV2.out.below hb); have z0 := HV3.out.cell (i := 0) rfl; have z1 := HV3.out.cell (i := 1) rfl; have z2 := HV3.out.cell (i := 2) rfl; have z3 := HV3.out.cell (i := 3) rfl; have z4 := HV3.out.cell (i := 4) rfl; have z5 := HV3.out.cell (i := 5) rfl; have z6 := HV3.out.cell (i := 6) rfl; have hlt := HV3.out.lt; clear hb hL)
  | (go_at_call 20; (with_reducible refine (root_c B d hd _ (Kd.C_below HL3.out (below_alloc (Below.refl _ _) _))).mono ?_); rintro e w4 ⟨rfl, hb⟩; have HB4 := Lib.hid (below_step (below_alloc HB3.out _) hb); have HK4 := Lib.hid (show Below w3.heap.size w3 w4 from below_step (below_alloc (Below.refl _ _) _) hb); have HX4 := Lib.hid (show RowIs w4 w3.heap.size 30 [.string ⟨#[116]⟩, .int .i64 1, .string ⟨#[]⟩, .string ⟨#[]⟩, .int .i64 8, .int .i64 1, .bool false, .slice none 0 0, .int .i64 0, .int .i64 0, .int .i64 0, .slice (some ⟨gr, 0, none⟩) 2 cr, .slice none 0 0] from (RowIs.new w3 30 [.string ⟨#[116]⟩, .int .i64 1, .string ⟨#[]⟩, .string ⟨#[]⟩, .int .i64 8, .int .i64 1, .bool false, .slice none 0 0, .int .i64 0, .int .i64 0, .int .i64 0, .slice (some ⟨gr, 0, none⟩) 2 cr, .slice none 0 0]).below hb); have hv4 := HV3.out.below HK4.out; have y0 := hv4.cell (i := 0) rfl; have y1 := hv4.cell (i := 1) rfl; have y2 := hv4.cell (i := 2) rfl; have y3 := hv4.cell (i := 3) rfl; have y4 := hv4.cell (i := 4) rfl; have y5 := hv4.cell (i := 5) rfl; have y6 := hv4.cell (i := 6) rfl; have x3 := HX4.out.cell (i := 3) rfl; have fz3 := HX4.out.frozen 3; clear hb hv4)
  | (go_at_call 63; go_loud (with_reducible refine (needs_c g gr cr _ (HG.out.below (below_set HB4.out (by have := HB3.out.size; omega))) (HR3.out.below (below_set HK4.out (Nat.le_refl _)))).mono ?_); rintro e w5 ⟨⟨gn, cn, rfl, hn⟩, hb⟩; have HK5 := Lib.hid (show Below w3.heap.size w3 w5 from below_step (below_set HK4.out (Nat.le_refl _)) hb); have HL5 := Lib.hid (show LoS w3 gr cr gn 0 w5 from ⟨HK5.out, Pre.of_own hn, _, [], (HX4.out.set 3 (.string rootV)).below hb, World.ownsRow_nil _ _ _ _, rfl⟩); have hcn := (row_cap hn).1; clear hb hn))
 clear HZ1 HZ2 z0 z1 z2 z3 z4 z5 z6 y0 y1 y2 y3 y4 y5 y6 x3 fz3 HV2 HV3 HX4 HB4 HK4 HR1 HR2 HC2 HB1 HB2 HB0
 go_loopw [22] (fun y W => ∃ n : Nat, y = .int .i64 n ∧ n ≤ 5 ∧ Hid (LoS w3 gr cr gn n W)) (fun y _ => (6 - intOf y).toNat)
 case atStart => exact ⟨0, rfl, by decide, HL5⟩
 case round =>
  clear HL5 HK5
  obtain ⟨n, rfl, hn, HS⟩ := hrel
  have hS := HS.out
  have hP := hS.2.1
  obtain ⟨wo, rfl⟩ : ∃ wo : World, wo = wr := ⟨_, rfl⟩
  by_cases h5 : n < 5
  · have q0 := needs_cell hP n h5
    have HLo := Lib.hid (Kd.C_below HL3.out hS.1)
    clear hS hP
    go_wp2_with (go_at_call 26; (with_reducible refine (path_s B d hd _ HLo.out n h5).mono ?_); rintro e u1 ⟨⟨gp, cp, rfl, hcp, hp⟩, hb⟩; have HS1 := Lib.hid (HS.out.below hb); have HP1 := Lib.hid hp; clear hb hp)
    obtain ⟨V, xs, hx, ho, hpr⟩ := HS1.out.2.2
    obtain ⟨AV, cV, rfl⟩ := own_slice ho
    have x12 := hx.cell (i := 12) rfl
    have fz12 := hx.frozen 12
    have q1 := needs_cell HS1.out.2.1 n h5
    obtain ⟨e0, e1, e2, e3⟩ := ev_cells (Kd.C_below HC3.out HS1.out.1) n h5
    have lga : ga < w3.heap.size := World.block_lt_of_cell? w3 _ (ev_cells HC3.out 0 (by decide)).1
    have lgn : gn < u1.heap.size := World.block_lt_of_cell? u1 _ q1
    have lbx : w3.heap.size < u1.heap.size := World.block_lt_of_cell? u1 _ x12
    have nb : some w3.heap.size ≠ (Value.slice AV n cV).ownBlock := fun e => by have := row_low ho _ e.symm; omega
    have na : some ga ≠ (Value.slice AV n cV).ownBlock := fun e => by have := row_low ho _ e.symm; omega
    have nn : some gn ≠ (Value.slice AV n cV).ownBlock := HS1.out.2.1.ne_row ho (by decide)
    have HO1 := Lib.hid ho; have HX1 := Lib.hid hx; have HPR := Lib.hid hpr; have NB := Lib.hid nb; have NA := Lib.hid na; have NN := Lib.hid nn
    clear ho hx hpr q0 nb na nn
    have ap : ((n : Int) + 3).toNat = n + 3 := by omega
    have g0 : (0 : Int) ≤ (n : Int) + 3 := by omega
    have g1 : (n : Int) + 3 < 8 := by omega
    have ne1 : w3.heap.size ≠ gn := fun e => by
     have h1 := HS1.out.2.1
     rw [← e] at h1
     exact absurd (Pre.type_eq h1 (Pre.of_row HX1.out)) (by decide)
    have ne2 : w3.heap.size ≠ ga := by omega
    obtain ⟨gg, cap, u2, hrun, hown1, hgrow, _, _⟩ := run_append_lies (P := Tryz.prog) (u1.drew.alloc (.cells #[.int .i64 ((n : Int) + 3), .int .i64 (evAt n).f0, .int .i64 (evAt n).f1, .string (evAt n).f2, .string (evAt n).f3, .slice (some ⟨gp, 0, none⟩) 3 cp] 55)) 28 28 (w3.heap.size + 1) 55 i0 _ 6 80 Tryz.underlying28 hi0 hz0 hz1 hz2 rfl (by omega) (.slice AV n cV) n xs ((HO1.out.drew).alloc _) ⟨u1.heap.size, 0, none⟩ 1 1 (prf n gp cp) (by rfl) (cells_new_at u1.drew (prf n gp cp) 55 u1.heap.size rfl) (by simp [Value.oneCell', prf]) (by omega) (by unfold maxLen; omega) (by omega) (by simp; omega) (u1.heap.size + 1) (by simp)
    have hx2 : RowIs u2 w3.heap.size 30 (boxCells gr cr (.slice AV n cV)) := (hgrow.block w3.heap.size (by simp; omega) NB.out).trans (HX1.out.drew.alloc _)
    have y12 := hx2.cell (i := 12) rfl
    have fy12 := hx2.frozen 12
    have HGR := Lib.hid hgrow; have HOW := Lib.hid hown1; have HRU := Lib.hid hrun
    have x12b : (u1.drew.alloc (.cells #[.int .i64 ((n : Int) + 3), .int .i64 (evAt n).f0, .int .i64 (evAt n).f1, .string (evAt n).f2, .string (evAt n).f3, .slice (some ⟨gp, 0, none⟩) 3 cp] 55)).cell? ⟨w3.heap.size, 12, none⟩ = some (.slice AV n cV) := (HX1.out.drew.alloc _).cell (i := 12) rfl
    have HQ := Lib.hid (show ∀ (m : Nat) (u : World), u = (match m with | 0 => u1.drew | 1 => u1.drew.alloc (.cells #[.int .i64 ((n : Int) + 3), .int .i64 (evAt n).f0, .int .i64 (evAt n).f1, .string (evAt n).f2, .string (evAt n).f3, .slice (some ⟨gp, 0, none⟩) 3 cp] 55) | 2 => u2 | _ => u2.setCell ⟨w3.heap.size, 12, none⟩ (.slice (some ⟨gg, 0, none⟩) (n + 1) cap)) → u.cell? ⟨gn, n, none⟩ = some (.int .i64 ((n : Int) + 3)) ∧ u.cell? ⟨ga, (n + 3) * 4, none⟩ = some (.int .i64 (evAt n).f0) ∧ u.cell? ⟨ga, (n + 3) * 4 + 1, none⟩ = some (.int .i64 (evAt n).f1) ∧ u.cell? ⟨ga, (n + 3) * 4 + 2, none⟩ = some (.string (evAt n).f2) ∧ u.cell? ⟨ga, (n + 3) * 4 + 3, none⟩ = some (.string (evAt n).f3) from by
     have f1 : ∀ {a : Addr} {v : Value}, u1.cell? a = some v → (u1.drew.alloc (.cells #[.int .i64 ((n : Int) + 3), .int .i64 (evAt n).f0, .int .i64 (evAt n).f1, .string (evAt n).f2, .string (evAt n).f3, .slice (some ⟨gp, 0, none⟩) 3 cp] 55)).cell? a = some v := fun h => pw_cell_below (below_alloc (Below.refl u1.drew.heap.size u1.drew) _) h
     have f2 : ∀ {a : Addr} {v : Value}, u1.cell? a = some v → some a.block ≠ (Value.slice AV n cV).ownBlock → u2.cell? a = some v := fun h hne => (HGR.out.cell_far _ (World.block_lt_of_cell? _ _ (f1 h)) hne).trans (f1 h)
     have f3 : ∀ {a : Addr} {v : Value}, u1.cell? a = some v → some a.block ≠ (Value.slice AV n cV).ownBlock → w3.heap.size ≠ a.block → (u2.setCell ⟨w3.heap.size, 12, none⟩ (.slice (some ⟨gg, 0, none⟩) (n + 1) cap)).cell? a = some v := fun h hne hb => (World.cell?_setCell_far _ _ _ _ hb).trans (f2 h hne)
     intro m u hu
     match m, hu with
     | 0, hu => subst hu; exact ⟨q1, e0, e1, e2, e3⟩
     | 1, hu => subst hu; exact ⟨f1 q1, f1 e0, f1 e1, f1 e2, f1 e3⟩
     | 2, hu => subst hu; exact ⟨f2 q1 NN.out, f2 e0 NA.out, f2 e1 NA.out, f2 e2 NA.out, f2 e3 NA.out⟩
     | k + 3, hu => subst hu; exact ⟨f3 q1 NN.out ne1, f3 e0 NA.out ne2, f3 e1 NA.out ne2, f3 e2 NA.out ne2, f3 e3 NA.out ne2⟩)
    clear hgrow hown1 hrun hx2
    refine Fam.wp_region_fam [15, 16, 18] (fun m u => u = (match m with | 0 => u1.drew | 1 => u1.drew.alloc (.cells #[.int .i64 ((n : Int) + 3), .int .i64 (evAt n).f0, .int .i64 (evAt n).f1, .string (evAt n).f2, .string (evAt n).f3, .slice (some ⟨gp, 0, none⟩) 3 cp] 55) | 2 => u2 | _ => u2.setCell ⟨w3.heap.size, 12, none⟩ (.slice (some ⟨gg, 0, none⟩) (n + 1) cap))) (by kernel_rfl) (by kernel_rfl) rfl ?_
    refine Fam.pure_ (by rfl) (by rfl) rfl (fun K hK => ?_)
    go_big_quiet_op
    refine hK _ ?_
    clear hK K
    refine Fam.read_ (.slice AV n cV) (by rfl) (by rfl) (fun m' hm u hu => ?_) ?_
    · have hm1 := Fam.inR_le hm 1 (by decide) (by kernel_rfl)
      have hm2 : m' = 0 ∨ m' = 1 := by omega
      rcases hm2 with rfl | rfl
      · subst hu
        go_simp
      · subst hu
        go_simp
    simp only [Act.put, List.setIfInBounds_toArray, List.set_cons_zero, List.set_cons_succ]
    iterate 3 (refine Fam.pure_ (by rfl) (by rfl) rfl (fun K hK => ?_); go_big_quiet_op; refine hK _ ?_; clear hK K)
    refine Fam.read_ (.int .i64 ((n : Int) + 3)) (by rfl) (by rfl) (fun m' hm u hu => ?_) ?_
    · obtain ⟨s0, s1, s2, s3, s4⟩ := HQ.out m' u hu
      clear hu
      go_simp
    simp only [Act.put, List.setIfInBounds_toArray, List.set_cons_zero, List.set_cons_succ]
    iterate 4 (refine Fam.pure_ (by rfl) (by rfl) rfl (fun K hK => ?_); go_big_quiet_op; refine hK _ ?_; clear hK K)
    refine Fam.read_ (.int .i64 ((n : Int) + 3)) (by rfl) (by rfl) (fun m' hm u hu => ?_) ?_
    · obtain ⟨s0, s1, s2, s3, s4⟩ := HQ.out m' u hu
      clear hu
      go_simp
    simp only [Act.put, List.setIfInBounds_toArray, List.set_cons_zero, List.set_cons_succ]
    refine Fam.pure_ (by rfl) (by rfl) rfl (fun K hK => ?_)
    go_big_quiet_op
    refine hK _ ?_
    clear hK K
    refine Fam.read_ (.agg #[.int .i64 (evAt n).f0, .int .i64 (evAt n).f1, .string (evAt n).f2, .string (evAt n).f3]) (by rfl) (by rfl) (fun m' hm u hu => ?_) ?_
    · obtain ⟨s0, s1, s2, s3, s4⟩ := HQ.out m' u hu
      clear hu
      go_simp
    simp only [Act.put, List.setIfInBounds_toArray, List.set_cons_zero, List.set_cons_succ]
    iterate 2 (refine Fam.pure_ (by rfl) (by rfl) rfl (fun K hK => ?_); go_big_quiet_op; refine hK _ ?_; clear hK K)
    refine Fam.eff_ (.slice (some ⟨u1.heap.size, 0, none⟩) 1 1) (by rfl) (by rfl) (fun u hu => ?_) ?_
    · subst hu
      exact ⟨_, by go_simp, rfl⟩
    simp only [Act.put, List.setIfInBounds_toArray, List.set_cons_zero, List.set_cons_succ]
    refine Fam.eff_ (.slice (some ⟨gg, 0, none⟩) (n + 1) cap) (by rfl) (by rfl) (fun u hu => ?_) ?_
    · subst hu
      exact ⟨_, op_append _ _ _ rfl rfl rfl HRU.out, rfl⟩
    simp only [Act.put, List.setIfInBounds_toArray, List.set_cons_zero, List.set_cons_succ]
    refine Fam.pure_ (by rfl) (by rfl) rfl (fun K hK => ?_)
    go_big_quiet_op
    refine hK _ ?_
    clear hK K
    refine Fam.store_ (by rfl) (by rfl) (fun u hu => ?_) ?_
    · subst hu
      exact ⟨_, by go_simp, rfl⟩
    try simp only [Act.put, List.setIfInBounds_toArray, List.set_cons_zero, List.set_cons_succ]
    refine Fam.nil_ ?_
    rintro w5 rfl
    clear NB NA NN ne1 ne2 lga lgn lbx
    have HL2 := Lib.hid (los_next HS1.out.1 HS1.out.2.1 HX1.out HO1.out HPR.out hcp HP1.out HGR.out HOW.out)
    clear HQ HGR HOW HRU HS1 HX1 HO1 HPR HP1 y12 fy12 e0 e1 e2 e3 q1 x12 fz12 x12b
    go_wp2
    go_roundw
    case rel => exact ⟨n + 1, by go_num, by omega, HL2⟩
    case measure => simp [intOf]; omega
  · have e5 : n = 5 := by omega
    subst e5
    obtain ⟨V, xs, hx, ho, hpr⟩ := hS.2.2
    obtain ⟨gq, cq, rfl⟩ := ownsRow_succ (k := 4) ho
    have hcq : 5 ≤ cq := (row_cap ho).1
    have hBw := below_step HB3.out hS.1
    have hz := HZ3.out.below hS.1
    have HF := Lib.hid (show FinS gr gq w.heap.size xs wo from ⟨HR3.out.below hS.1, Pre.of_own ho, hpr, _, hz⟩)
    have HX := Lib.hid hx; have HBo := Lib.hid hBw; have HZ := Lib.hid hz
    have x0 := hx.cell (i := 0) rfl; have x1 := hx.cell (i := 1) rfl; have x2 := hx.cell (i := 2) rfl; have x3 := hx.cell (i := 3) rfl; have x4 := hx.cell (i := 4) rfl; have x5 := hx.cell (i := 5) rfl; have x6 := hx.cell (i := 6) rfl; have x7 := hx.cell (i := 7) rfl; have x8 := hx.cell (i := 8) rfl; have x9 := hx.cell (i := 9) rfl; have x10 := hx.cell (i := 10) rfl; have x11 := hx.cell (i := 11) rfl; have x12 := hx.cell (i := 12) rfl
    clear hS hP hx ho hpr hBw hz HS
    go_wp2_with (go_at_call 35; (with_reducible refine (may_c gr cr gq cq hcr hcq _ HF.out.ce).mono ?_); rintro e u2 ⟨rfl, hb⟩; have HF2 := Lib.hid (HF.out.below hb); have hx2 := HX.out.below hb; have hz5 := HZ.out.below hb; have HBw := Lib.hid (below_step HBo.out hb); have HZ5 := Lib.hid hz5; have x0 := hx2.cell (i := 0) rfl; have x1 := hx2.cell (i := 1) rfl; have x2 := hx2.cell (i := 2) rfl; have x3 := hx2.cell (i := 3) rfl; have x4 := hx2.cell (i := 4) rfl; have x5 := hx2.cell (i := 5) rfl; have x6 := hx2.cell (i := 6) rfl; have x7 := hx2.cell (i := 7) rfl; have x8 := hx2.cell (i := 8) rfl; have x9 := hx2.cell (i := 9) rfl; have x10 := hx2.cell (i := 10) rfl; have x11 := hx2.cell (i := 11) rfl; have x12 := hx2.cell (i := 12) rfl; have z0 := hz5.cell (i := 0) rfl; have fz0 := hz5.frozen 0; have z1 := hz5.cell (i := 1) rfl; have fz1 := hz5.frozen 1; have z2 := hz5.cell (i := 2) rfl; have fz2 := hz5.frozen 2; have z3 := hz5.cell (i := 3) rfl; have fz3 := hz5.frozen 3; have z4 := hz5.cell (i := 4) rfl; have fz4 := hz5.frozen 4; have z5 := hz5.cell (i := 5) rfl; have fz5 := hz5.frozen 5; have z6 := hz5.cell (i := 6) rfl; have fz6 := hz5.frozen 6; have z7 := hz5.cell (i := 7) rfl; have fz7 := hz5.frozen 7; have z8 := hz5.cell (i := 8) rfl; have fz8 := hz5.frozen 8; have z9 := hz5.cell (i := 9) rfl; have fz9 := hz5.frozen 9; have z10 := hz5.cell (i := 10) rfl; have fz10 := hz5.frozen 10; have z11 := hz5.cell (i := 11) rfl; have fz11 := hz5.frozen 11; have z12 := hz5.cell (i := 12) rfl; have fz12 := hz5.frozen 12; clear hb hx2 hz5)
    refine bodyPost_ret (results_ct Tryz.results31 _ _ w.heap.size 30 #[.string ⟨#[116]⟩, .int .i64 1, .string ⟨#[]⟩, .string rootV, .int .i64 8, .int .i64 1, .bool false, .slice none 0 0, .int .i64 0, .int .i64 0, .int .i64 0, .slice (some ⟨gr, 0, none⟩) 2 cr, .slice (some ⟨gq, 0, none⟩) 5 cq] (0, 0) _ rfl (show _ from (((((((((((((HZ5.out.set 0 (.string ⟨#[116]⟩)).set 1 (.int .i64 1)).set 2 (.string ⟨#[]⟩)).set 3 (.string rootV)).set 4 (.int .i64 8)).set 5 (.int .i64 1)).set 6 (.bool false)).set 7 (.slice none 0 0)).set 8 (.int .i64 0)).set 9 (.int .i64 0)).set 10 (.int .i64 0)).set 11 (.slice (some ⟨gr, 0, none⟩) 2 cr)).set 12 (.slice (some ⟨gq, 0, none⟩) 5 cq))) Tryz.underlying30 rfl (by kernel_rfl)) rfl ?_
    exact ⟨⟨gr, cr, gq, cq, rfl, hcr, hcq, FinS.ce (((((((((((((HF2.out.set 0 (.string ⟨#[116]⟩)).set 1 (.int .i64 1)).set 2 (.string ⟨#[]⟩)).set 3 (.string rootV)).set 4 (.int .i64 8)).set 5 (.int .i64 1)).set 6 (.bool false)).set 7 (.slice none 0 0)).set 8 (.int .i64 0)).set 9 (.int .i64 0)).set 10 (.int .i64 0)).set 11 (.slice (some ⟨gr, 0, none⟩) 2 cr)).set 12 (.slice (some ⟨gq, 0, none⟩) 5 cq))⟩, (below_set (below_set (below_set (below_set (below_set (below_set (below_set (below_set (below_set (below_set (below_set (below_set (below_set HBw.out (Nat.le_refl _)) (Nat.le_refl _)) (Nat.le_refl _)) (Nat.le_refl _)) (Nat.le_refl _)) (Nat.le_refl _)) (Nat.le_refl _)) (Nat.le_refl _)) (Nat.le_refl _)) (Nat.le_refl _)) (Nat.le_refl _)) (Nat.le_refl _)) (Nat.le_refl _))⟩
end Go.Proofs.YtjlpjpjodhkpdaaGreatDoor
