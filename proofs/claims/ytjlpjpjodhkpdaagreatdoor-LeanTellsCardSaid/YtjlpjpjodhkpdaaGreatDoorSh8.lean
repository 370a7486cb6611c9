/- The document's example: its ring. -/
import Derived.Test.YtjlpjpjodhkpdaaGreatDoorShB
set_option maxHeartbeats 8000000
set_option maxRecDepth 100000
set_option linter.unusedVariables false
set_option linter.unusedSimpArgs false
namespace Go.Proofs.YtjlpjpjodhkpdaaGreatDoor
open Go.RowKit Go.Proofs.YtjlpjpjodhkpdaaGreatDoor.Q Go.Proofs.YtjlpjpjodhkpdaaGreatDoorW.PrintWords
def RgS (gs g1 g2 gw a0 c0 a1 c1 a2 c2 : Nat) (w W : World) : Prop :=
 Pre W gs 109 (step1 g1 ++ step2 g2) ∧ Pre W gw 22 [sl1 a0 c0, sl1 a1 c1, sl1 a2 c2] ∧ Pre W a0 3 [.int .i64 1] ∧ Pre W a1 3 [.int .i64 2] ∧ Below w.heap.size w W ∧ gs < w.heap.size
section
variable {gs g1 g2 gw a0 c0 a1 c1 a2 c2 : Nat} {w W W' : World}
theorem RgS.drewN (h : RgS gs g1 g2 gw a0 c0 a1 c1 a2 c2 w W) (n : Nat) : RgS gs g1 g2 gw a0 c0 a1 c1 a2 c2 w (W.drewN n) := ⟨h.1, h.2.1, h.2.2.1, h.2.2.2.1, pw_below_drewN h.2.2.2.2.1 n, h.2.2.2.2.2⟩
theorem RgS.app (h : RgS gs g1 g2 gw a0 c0 a1 c1 a2 c2 w W) {n : Nat} {v : Value} {xs : List Value} {o : Obj} (ho : W.ownsRow w.heap.size 109 3 v n xs) (hg : (W.alloc o).grownBy W' v.ownBlock) : RgS gs g1 g2 gw a0 c0 a1 c1 a2 c2 w W' :=
 ⟨(h.1.alloc o).kept hg (fun e => by have := row_low ho gs e.symm; have := h.2.2.2.2.2; omega), h.2.1.kept_row ho (by decide) hg, h.2.2.1.kept_row ho (by decide) hg, h.2.2.2.1.kept_row ho (by decide) hg, below_row h.2.2.2.2.1 ho hg, h.2.2.2.2.2⟩
theorem cells_new_at (W : World) (cs : List Value) (t k : Nat) (hk : W.heap.size = k) : ∀ j u, cs[j]? = some u → (W.alloc (.cells cs.toArray t)).cell? ((⟨k, 0, none⟩ : Addr).add j) = some u := by
 subst hk
 exact (Pre.new W t cs).news
end
theorem ring_c (gs cs g1 g2 : Nat) (w : World) (hs : Pre w gs 109 (step1 g1 ++ step2 g2)) :
 Calls Tryz.prog 95 #[.slice (some ⟨gs, 0, none⟩) 2 cs] w fun e w' => (∃ g c, 2 ≤ c ∧ e = .returned (.tuple #[.slice (some ⟨g, 0, none⟩) 2 c, .bool true]) ∧ Pre w' g 109 (step1 g1 ++ step2 g2)) ∧ Below w.heap.size w w' := by
 obtain ⟨i0, hi0, hz0, hz1, hz2⟩ := info_parts infoStep
 have HS := Lib.hid hs
 have hgs := hs.lt
 clear hs
 go_enter Tryz.func95, Tryz.ntmps95
 go_wp2_with (go_at_call 124; (with_reducible refine (starts_c gs cs g1 g2 _ HS.out).mono ?_); rintro e w1 ⟨⟨gt, ct, hct, rfl, hpt⟩, hb1⟩; have HPT := Lib.hid hpt; have HB1 := Lib.hid hb1; clear hpt hb1)
 go_loopw [5] (fun y wr => ∃ n : Int, y = .int .i64 n ∧ (n = 1 ∨ n = 2) ∧ Below w.heap.size w wr ∧ Pre wr gt 3 [.int .i64 1, .int .i64 2]) (fun y _ => (3 - intOf y).toNat)
 case atStart => exact ⟨1, rfl, .inl rfl, HB1.out, HPT.out⟩
 case round =>
  clear HPT HB1
  obtain ⟨n, rfl, hn, hB, hpt⟩ := hrel
  have HB := Lib.hid hB; have HPT := Lib.hid hpt
  clear hB hpt
  obtain ⟨wo, rfl⟩ : ∃ wo : World, wo = wr := ⟨_, rfl⟩
  rcases hn with rfl | rfl
  · go_wp2
    go_loopw [6] (fun y v => ∃ k : Int, y = .int .i64 k ∧ (k = 0 ∨ k = 1 ∨ k = 2) ∧ Below w.heap.size w v ∧ Pre v gt 3 [.int .i64 1, .int .i64 2]) (fun y _ => (3 - intOf y).toNat)
    case atStart => exact ⟨0, rfl, .inl rfl, HB.out, HPT.out⟩
    case round =>
     clear HPT HB
     obtain ⟨k, rfl, hk, hB, hpt⟩ := hrel
     have HB := Lib.hid hB; have HPT := Lib.hid hpt; have HSr := Lib.hid (HS.out.below hB)
     have p0 := hpt.cell (i := 0) rfl; have p1 := hpt.cell (i := 1) rfl
     clear hB hpt
     obtain ⟨wi, rfl⟩ : ∃ wi : World, wi = wr := ⟨_, rfl⟩
     rcases hk with rfl | rfl | rfl
     · go_wp2_with (go_at_call 125; (with_reducible refine (ways_11 gs cs g1 g2 _ HSr.out).mono ?_); rintro e w2 ⟨⟨x, rfl, hw⟩, hb2⟩; obtain ⟨gw, cw, a0, c0, a1, c1, rfl, ⟨hc0, hc1⟩, ho, hp0, hp1⟩ : _ := (hw.resolve_left (fun h => absurd h.1 (by decide))).resolve_right (fun h => absurd h.1 (by decide)) |>.2; have HW := Lib.hid (Pre.of_own ho); have HA := Lib.hid hp1; have HB2 := Lib.hid (below_step HB.out hb2); have HP2 := Lib.hid (HPT.out.below hb2); clear hw hb2 ho hp0 hp1)
       have r1 := HW.out.cell (i := 1) rfl
       have p2 := HP2.out.cell (i := 0) rfl; have p3 := HP2.out.cell (i := 1) rfl
       go_quiet ((go_at_call 122; (first | (with_reducible refine (has_ev a1 c1 _ 1 [2] rfl (by decide) (Pre.drewN (Pre.drewN HA.out _) _) hc1 _ false (by kernel_rfl)).mono ?_) | (with_reducible refine (has_ev a1 c1 _ 1 [2] rfl (by decide) (Pre.drewN HA.out _) hc1 _ false (by kernel_rfl)).mono ?_)); rintro e w' ⟨rfl, ⟨nd, rfl⟩⟩; (first | exact ⟨rfl, _, World.drewN_drewN _ _ _⟩ | exact ⟨rfl, _, Eq.trans (World.drewN_drewN _ _ _) (congrArg (World.drewN _) (Nat.add_assoc _ _ _))⟩)))
       go_wp2
       go_roundw
       case rel => exact ⟨1, rfl, .inr (.inl rfl), pw_below_drewN HB2.out _, Pre.drewN HP2.out _⟩
       case measure => simp [intOf]
     · go_wp2_with (go_at_call 125; (with_reducible refine (ways_21 gs cs g1 g2 _ HSr.out).mono ?_); rintro e w2 ⟨⟨x, rfl, hw⟩, hb2⟩; obtain ⟨gw, cw, a0, c0, a1, c1, rfl, ⟨hc0, hc1⟩, ho, hp0, hp1⟩ : _ := (hw.resolve_left (fun h => absurd h.1 (by decide))).resolve_right (fun h => absurd h.1 (by decide)) |>.2; have HW := Lib.hid (Pre.of_own ho); have HA := Lib.hid hp1; have HB2 := Lib.hid (below_step HB.out hb2); have HP2 := Lib.hid (HPT.out.below hb2); clear hw hb2 ho hp0 hp1)
       have r1 := HW.out.cell (i := 1) rfl
       have p2 := HP2.out.cell (i := 0) rfl; have p3 := HP2.out.cell (i := 1) rfl
       go_quiet ((go_at_call 122; (first | (with_reducible refine (has_ev a1 c1 _ 1 [1] rfl (by decide) (Pre.drewN (Pre.drewN HA.out _) _) hc1 _ false (by kernel_rfl)).mono ?_) | (with_reducible refine (has_ev a1 c1 _ 1 [1] rfl (by decide) (Pre.drewN HA.out _) hc1 _ false (by kernel_rfl)).mono ?_)); rintro e w' ⟨rfl, ⟨nd, rfl⟩⟩; (first | exact ⟨rfl, _, World.drewN_drewN _ _ _⟩ | exact ⟨rfl, _, Eq.trans (World.drewN_drewN _ _ _) (congrArg (World.drewN _) (Nat.add_assoc _ _ _))⟩)))
       go_wp2
       go_roundw
       case rel => exact ⟨2, rfl, .inr (.inr rfl), pw_below_drewN HB2.out _, Pre.drewN HP2.out _⟩
       case measure => simp [intOf]
     · go_wp2
       go_roundw
       case rel => exact ⟨2, rfl, .inr rfl, HB.out, HPT.out⟩
       case measure => simp [intOf]
  · go_wp2
    go_loopw [6] (fun y v => y = .int .i64 0 ∧ v = wo) (fun y _ => 0)
    case atStart => exact ⟨rfl, rfl⟩
    case round =>
     obtain ⟨rfl, rfl⟩ := hrel
     have HSr := Lib.hid (HS.out.below HB.out)
     have p0 := HPT.out.cell (i := 0) rfl; have p1 := HPT.out.cell (i := 1) rfl
     obtain ⟨wi, rfl⟩ : ∃ wi : World, wi = wr := ⟨_, rfl⟩
     go_wp2_with (go_at_call 125; (with_reducible refine (ways_12 gs cs g1 g2 _ HSr.out).mono ?_); rintro e w2 ⟨⟨x, rfl, hw⟩, hb2⟩; obtain ⟨gw, cw, a0, c0, a1, c1, a2, c2, rfl, ⟨hc0, hc1, hc2⟩, ho, hp0, hp1, hp2⟩ : _ := ((hw.resolve_left (fun h => absurd h.1 (by decide))).resolve_left (fun h => absurd h.1 (by decide))).2; have HR := Lib.hid (show RgS gs g1 g2 gw a0 c0 a1 c1 a2 c2 w w2 from ⟨HSr.out.below hb2, Pre.of_own ho, hp0, hp1, below_step HB.out hb2, hgs⟩); have HA := Lib.hid hp2; have HP2 := Lib.hid (HPT.out.below hb2); clear hw hb2 ho hp0 hp1 hp2)
     have r2 := HR.out.2.1.cell (i := 2) rfl
     have p2 := HP2.out.cell (i := 0) rfl; have p3 := HP2.out.cell (i := 1) rfl
     go_quiet ((go_at_call 122; (first | (with_reducible refine (has_ev a2 c2 _ 1 [1] rfl (by decide) (Pre.drewN (Pre.drewN HA.out _) _) hc2 _ true (by kernel_rfl)).mono ?_) | (with_reducible refine (has_ev a2 c2 _ 1 [1] rfl (by decide) (Pre.drewN HA.out _) hc2 _ true (by kernel_rfl)).mono ?_)); rintro e w' ⟨rfl, ⟨nd, rfl⟩⟩; (first | exact ⟨rfl, _, World.drewN_drewN _ _ _⟩ | exact ⟨rfl, _, Eq.trans (World.drewN_drewN _ _ _) (congrArg (World.drewN _) (Nat.add_assoc _ _ _))⟩)))
     go_wp2
     clear p0 p1 p2 p3 r2
     go_loopw [9, 10, 11] (fun x a y v => ∃ m : Int, y = .int .i64 m ∧ Hid (RgS gs g1 g2 gw a0 c0 a1 c1 a2 c2 w v ∧ ((m = 1 ∧ x = .slice none 0 0 ∧ a = .int .i64 1) ∨ (m = 0 ∧ (∃ g c, x = .slice (some ⟨g, 0, none⟩) 1 c ∧ v.ownsRow w.heap.size 109 3 x 1 (step1 g1)) ∧ a = .int .i64 2) ∨ (m = -1 ∧ (∃ g c, 2 ≤ c ∧ x = .slice (some ⟨g, 0, none⟩) 2 c ∧ v.ownsRow w.heap.size 109 3 x 2 (step1 g1 ++ step2 g2)) ∧ a = .int .i64 1)))) (fun _ _ y _ => (intOf y + 1).toNat)
     case atStart => exact ⟨1, rfl, Lib.hid ⟨HR.out.drewN _, .inl ⟨rfl, rfl, rfl⟩⟩⟩
     case round =>
      clear HR
      obtain ⟨m, rfl, HM⟩ := hrel
      obtain ⟨hR, hm⟩ := HM.out
      have HR := Lib.hid hR; have HA0 := Lib.hid hR.2.2.1; have HA1 := Lib.hid hR.2.2.2.1
      have t0 := hR.1.cell (i := 0) rfl; have t1 := hR.1.cell (i := 1) rfl; have t2 := hR.1.cell (i := 2) rfl; have t3 := hR.1.cell (i := 3) rfl; have t4 := hR.1.cell (i := 4) rfl; have t5 := hR.1.cell (i := 5) rfl
      have y0 := hR.2.1.cell (i := 0) rfl; have y1 := hR.2.1.cell (i := 1) rfl
      have hzr := hR.2.2.2.2.1.size
      clear HM hR
      obtain ⟨wm, rfl⟩ : ∃ wm : World, wm = wr := ⟨_, rfl⟩
      rcases hm with ⟨rfl, rfl, rfl⟩ | ⟨rfl, ⟨g, c, rfl, ho⟩, rfl⟩ | ⟨rfl, ⟨g, c, hc, rfl, ho⟩, rfl⟩
      · go_wp2
        go_loopw [9, 10, 12, 13] (fun x a f y v => ∃ i : Int, y = .int .i64 i ∧ Hid ((i = 0 ∧ x = .slice none 0 0 ∧ a = .int .i64 1 ∧ f = .bool false ∧ ∃ k, v = wm.drewN k) ∨ (i = 1 ∧ (∃ g c, x = .slice (some ⟨g, 0, none⟩) 1 c ∧ v.ownsRow w.heap.size 109 3 x 1 (step1 g1)) ∧ a = .int .i64 2 ∧ f = .bool true ∧ RgS gs g1 g2 gw a0 c0 a1 c1 a2 c2 w v))) (fun _ _ _ y _ => (2 - intOf y).toNat)
        case atStart => exact ⟨0, rfl, Lib.hid (.inl ⟨rfl, rfl, rfl, rfl, 0, rfl⟩)⟩
        case round =>
         obtain ⟨i, rfl, HI⟩ := hrel
         have hi := HI.out
         clear HI
         rcases hi with ⟨rfl, rfl, rfl, rfl, k, rfl⟩ | ⟨rfl, ⟨g, c, rfl, ho⟩, rfl, rfl, hR⟩
         · have HO0 := Lib.hid (World.ownsRow_nil wm w.heap.size 109 3)
           have sA : ∀ m, (wm.drewN m).cell? ⟨gs, 0, none⟩ = some (.int .i64 1) := fun m => (Pre.drewN HR.out.1 m).cell (i := 0) rfl
           have sB : ∀ m, (wm.drewN m).cell? ⟨gs, 1, none⟩ = some (.int .i64 2) := fun m => (Pre.drewN HR.out.1 m).cell (i := 1) rfl
           go_wp2
           go_quiet ((go_at_call 122; (first | (with_reducible refine (has_ev a1 c1 _ 1 [2] rfl (by decide) (Pre.drewN (Pre.drewN HA1.out _) _) hc1 _ true (by kernel_rfl)).mono ?_) | (with_reducible refine (has_ev a1 c1 _ 1 [2] rfl (by decide) (Pre.drewN HA1.out _) hc1 _ true (by kernel_rfl)).mono ?_)); rintro e w' ⟨rfl, ⟨nd, rfl⟩⟩; (first | exact ⟨rfl, _, World.drewN_drewN _ _ _⟩ | exact ⟨rfl, _, Eq.trans (World.drewN_drewN _ _ _) (congrArg (World.drewN _) (Nat.add_assoc _ _ _))⟩)))
           go_wp2_with (at_builtin; refine wpList_append_own_at _ rfl _ _ 103 rfl w.heap.size 109 i0 (.agg #[.int .i64 0, .int .i64 0, .slice none 0 0]) 3 40 Tryz.underlying103 hi0 hz0 hz1 hz2 rfl (by decide) (.slice none 0 0) 0 [] rfl ((own_drewN HO0.out _).alloc _) _ 1 1 (step1 g1) rfl rfl (cells_new_at _ _ _ _ (by simp)) (by simp [Value.oneCell', step1, step2]) (by unfold maxLen; omega) (by omega) (by simp; omega) ?_; intro v' w3 hown' hgrow _ hlies; obtain ⟨gm, cm, rfl⟩ := ownsRow_succ hown'; have hcm : 1 ≤ cm := (row_cap hown').1; have HO3 := Lib.hid hown'; have hr3 := RgS.app (HR.out.drewN _) (own_drewN HO0.out _) hgrow; have HR3 := Lib.hid hr3; have z0 := hr3.1.cell (i := 1) rfl; clear hown' hgrow hlies hr3)
           go_roundw
           case rel => exact ⟨1, rfl, Lib.hid (.inr ⟨rfl, ⟨gm, cm, rfl, HO3.out⟩, rfl, rfl, HR3.out⟩)⟩
           case measure => simp [intOf]
         · have HO := Lib.hid ho; have HRn := Lib.hid hR
           clear ho hR
           go_wp2
           go_roundw
           case rel => exact ⟨0, rfl, Lib.hid ⟨HRn.out, .inr (.inl ⟨rfl, ⟨g, c, rfl, HO.out⟩, rfl⟩)⟩⟩
           case measure => simp [intOf]
      · have HO := Lib.hid ho
        clear ho
        go_wp2
        go_loopw [9, 10, 12, 13] (fun x a f y v => ∃ i : Int, y = .int .i64 i ∧ Hid (((i = 0 ∨ i = 1) ∧ x = .slice (some ⟨g, 0, none⟩) 1 c ∧ a = .int .i64 2 ∧ f = .bool false ∧ ∃ k, v = wm.drewN k) ∨ (i = 2 ∧ (∃ g c, 2 ≤ c ∧ x = .slice (some ⟨g, 0, none⟩) 2 c ∧ v.ownsRow w.heap.size 109 3 x 2 (step1 g1 ++ step2 g2)) ∧ a = .int .i64 1 ∧ f = .bool true ∧ RgS gs g1 g2 gw a0 c0 a1 c1 a2 c2 w v))) (fun _ _ _ y _ => (3 - intOf y).toNat)
        case atStart => exact ⟨0, rfl, Lib.hid (.inl ⟨.inl rfl, rfl, rfl, rfl, 0, rfl⟩)⟩
        case round =>
         obtain ⟨i, rfl, HI⟩ := hrel
         have hi := HI.out
         clear HI
         rcases hi with ⟨rfl | rfl, rfl, rfl, rfl, k, rfl⟩ | ⟨rfl, ⟨g', c', hc', rfl, ho⟩, rfl, rfl, hR⟩
         · have sA : ∀ m, (wm.drewN m).cell? ⟨gs, 0, none⟩ = some (.int .i64 1) := fun m => (Pre.drewN HR.out.1 m).cell (i := 0) rfl
           go_wp2
           go_quiet ((go_at_call 122; (first | (with_reducible refine (has_ev a0 c0 _ 1 [1] rfl (by decide) (Pre.drewN (Pre.drewN HA0.out _) _) hc0 _ false (by kernel_rfl)).mono ?_) | (with_reducible refine (has_ev a0 c0 _ 1 [1] rfl (by decide) (Pre.drewN HA0.out _) hc0 _ false (by kernel_rfl)).mono ?_)); rintro e w' ⟨rfl, ⟨nd, rfl⟩⟩; (first | exact ⟨rfl, _, World.drewN_drewN _ _ _⟩ | exact ⟨rfl, _, Eq.trans (World.drewN_drewN _ _ _) (congrArg (World.drewN _) (Nat.add_assoc _ _ _))⟩)))
           go_wp2
           go_roundw
           case rel => exact ⟨1, rfl, Lib.hid (.inl ⟨.inr rfl, rfl, rfl, rfl, _, rfl⟩)⟩
           case measure => simp [intOf]
         · have sA : ∀ m, (wm.drewN m).cell? ⟨gs, 3, none⟩ = some (.int .i64 2) := fun m => (Pre.drewN HR.out.1 m).cell (i := 3) rfl
           have sB : ∀ m, (wm.drewN m).cell? ⟨gs, 4, none⟩ = some (.int .i64 1) := fun m => (Pre.drewN HR.out.1 m).cell (i := 4) rfl
           go_wp2
           go_quiet ((go_at_call 122; (first | (with_reducible refine (has_ev a0 c0 _ 1 [1] rfl (by decide) (Pre.drewN (Pre.drewN HA0.out _) _) hc0 _ true (by kernel_rfl)).mono ?_) | (with_reducible refine (has_ev a0 c0 _ 1 [1] rfl (by decide) (Pre.drewN HA0.out _) hc0 _ true (by kernel_rfl)).mono ?_)); rintro e w' ⟨rfl, ⟨nd, rfl⟩⟩; (first | exact ⟨rfl, _, World.drewN_drewN _ _ _⟩ | exact ⟨rfl, _, Eq.trans (World.drewN_drewN _ _ _) (congrArg (World.drewN _) (Nat.add_assoc _ _ _))⟩)))
           go_wp2_with (at_builtin; refine wpList_append_own_at _ rfl _ _ 103 rfl w.heap.size 109 i0 (.agg #[.int .i64 0, .int .i64 0, .slice none 0 0]) 3 40 Tryz.underlying103 hi0 hz0 hz1 hz2 rfl (by decide) (.slice (some ⟨g, 0, none⟩) 1 c) 1 _ rfl ((own_drewN HO.out _).alloc _) _ 1 1 (step2 g2) rfl rfl (cells_new_at _ _ _ _ (by simp)) (by simp [Value.oneCell', step1, step2]) (by unfold maxLen; omega) (by omega) (by simp; omega) ?_; intro v' w3 hown' hgrow _ hlies; obtain ⟨gm, cm, rfl⟩ := ownsRow_succ hown'; have hcm : 2 ≤ cm := (row_cap hown').1; have HO3 := Lib.hid hown'; have hr3 := RgS.app (HR.out.drewN _) (own_drewN HO.out _) hgrow; have HR3 := Lib.hid hr3; have z0 := hr3.1.cell (i := 4) rfl; clear hown' hgrow hlies hr3)
           go_roundw
           case rel => exact ⟨2, rfl, Lib.hid (.inr ⟨rfl, ⟨gm, cm, hcm, rfl, HO3.out⟩, rfl, rfl, HR3.out⟩)⟩
           case measure => simp [intOf]
         · have HOn := Lib.hid ho; have HRn := Lib.hid hR
           clear ho hR
           go_wp2
           go_roundw
           case rel => exact ⟨-1, rfl, Lib.hid ⟨HRn.out, .inr (.inr ⟨rfl, ⟨g', c', hc', rfl, HOn.out⟩, rfl⟩)⟩⟩
           case measure => simp [intOf]
      · have HO := Lib.hid ho
        clear ho
        go_wp2
        go_ret2
        exact ⟨⟨g, c, hc, rfl, Pre.of_own HO.out⟩, HR.out.2.2.2.2.1⟩
end Go.Proofs.YtjlpjpjodhkpdaaGreatDoor
