/- The document's example: its edges. -/
import Derived.Test.YtjlpjpjodhkpdaaGreatDoorShA
import Derived.Test.YtjlpjpjodhkpdaaGreatDoorSh8
import Derived.Test.YtjlpjpjodhkpdaaGreatDoorSh9
set_option maxHeartbeats 8000000
set_option maxRecDepth 100000
set_option linter.unusedVariables false
set_option linter.unusedSimpArgs false
namespace Go.Proofs.YtjlpjpjodhkpdaaGreatDoor
open Go.RowKit Go.Proofs.YtjlpjpjodhkpdaaGreatDoor.Q Go.Proofs.YtjlpjpjodhkpdaaGreatDoorW.PrintWords
theorem infoEdge : (Tryz.prog.info? 32).map (fun i => (i.zero, i.size, i.bytes)) = some (some (.agg #[.int .i64 0, .int .i64 0, .int .i64 0, .int .i64 0, .int .i64 0]), 5, 40) := by kernel_rfl
def EdS (g gk gv : Nat) (w W : World) : Prop := H0 g W ∧ Pre W gk 9 [.string ⟨#[97]⟩] ∧ Pre W gv 3 [.int .i64 4, .int .i64 5] ∧ Below w.heap.size w W
section
variable {g gk gv : Nat} {w W W' : World}
theorem EdS.drewN (h : EdS g gk gv w W) (n : Nat) : EdS g gk gv w (W.drewN n) := ⟨h.1, h.2.1, h.2.2.1, pw_below_drewN h.2.2.2 n⟩
theorem EdS.app (h : EdS g gk gv w W) {n : Nat} {v : Value} {xs : List Value} {o : Obj} (ho : W.ownsRow w.heap.size 32 5 v n xs) (hg : (W.alloc o).grownBy W' v.ownBlock) : EdS g gk gv w W' :=
 ⟨(RowIs.alloc h.1 o).grown hg (((Pre.of_row h.1).alloc o).ne_row (ho.alloc o) (by decide)), h.2.1.kept_row ho (by decide) hg, h.2.2.1.kept_row ho (by decide) hg, below_row h.2.2.2 ho hg⟩
theorem ints_of_R {b : Nat} {ok : Nat → Prop} {v : Value} (h : Kd.R (Kd.int .i64) 3 W b ok v [4, 5]) : ∃ g c, 2 ≤ c ∧ v = .slice (some ⟨g, 0, none⟩) 2 c ∧ Pre W g 3 [.int .i64 4, .int .i64 5] := by
 have ho : W.ownsRow b 3 1 v 2 [.int .i64 4, .int .i64 5] := Kd.own_of_R (h1 := fun _ => rfl) h
 obtain ⟨g, c, rfl⟩ := ownsRow_succ ho
 exact ⟨g, c, (row_cap ho).1, rfl, Pre.of_own ho⟩
end
theorem versions_ev (g : Nat) (w : World) (hg : H0 g w) : Calls Tryz.prog 91 #[.slice (some ⟨g, 0, none⟩) 8 8, .string ⟨#[97]⟩] w fun e w' => (∃ gv c, 2 ≤ c ∧ e = .returned (.slice (some ⟨gv, 0, none⟩) 2 c) ∧ Pre w' gv 3 [.int .i64 4, .int .i64 5]) ∧ Below w.heap.size w w' :=
 (cartoucheref08_Versions.calls 100 (some ⟨g, 0, none⟩) 8 h0 ⟨#[97]⟩ [4, 5] w (kc0 hg) (Nat.le_refl _) (by kernel_rfl)).mono fun e w' ⟨v, he, hr, hb⟩ => by
   obtain ⟨g, c, hc, rfl, hp⟩ := ints_of_R hr
   exact ⟨⟨g, c, hc, he, hp⟩, hb⟩
theorem outer_ev (g : Nat) (w : World) (hg : H0 g w) (a : Int) (r : Bool) (h : cartoucheref09_Outer.f 30 h0 a = some r) : Calls Tryz.prog 92 #[.slice (some ⟨g, 0, none⟩) 8 8, .int .i64 a] w fun e w' => e = .returned (.bool r) ∧ Drawn0 w w' :=
 cartoucheref09_Outer.calls 30 (some ⟨g, 0, none⟩) 8 h0 a r w (kc0 hg) (Nat.le_refl _) h
theorem outer_0 (g : Nat) (w : World) (hg : H0 g w) : Calls Tryz.prog 92 #[.slice (some ⟨g, 0, none⟩) 8 8, .int .i64 0] w fun e w' => e = .returned (.bool false) ∧ Drawn0 w w' := outer_ev g w hg 0 false (by kernel_rfl)
theorem outer_1 (g : Nat) (w : World) (hg : H0 g w) : Calls Tryz.prog 92 #[.slice (some ⟨g, 0, none⟩) 8 8, .int .i64 1] w fun e w' => e = .returned (.bool false) ∧ Drawn0 w w' := outer_ev g w hg 1 false (by kernel_rfl)
theorem outer_2 (g : Nat) (w : World) (hg : H0 g w) : Calls Tryz.prog 92 #[.slice (some ⟨g, 0, none⟩) 8 8, .int .i64 2] w fun e w' => e = .returned (.bool true) ∧ Drawn0 w w' := outer_ev g w hg 2 true (by kernel_rfl)
theorem outer_3 (g : Nat) (w : World) (hg : H0 g w) : Calls Tryz.prog 92 #[.slice (some ⟨g, 0, none⟩) 8 8, .int .i64 3] w fun e w' => e = .returned (.bool true) ∧ Drawn0 w w' := outer_ev g w hg 3 true (by kernel_rfl)
theorem outer_4 (g : Nat) (w : World) (hg : H0 g w) : Calls Tryz.prog 92 #[.slice (some ⟨g, 0, none⟩) 8 8, .int .i64 4] w fun e w' => e = .returned (.bool false) ∧ Drawn0 w w' := outer_ev g w hg 4 false (by kernel_rfl)
theorem outer_5 (g : Nat) (w : World) (hg : H0 g w) : Calls Tryz.prog 92 #[.slice (some ⟨g, 0, none⟩) 8 8, .int .i64 5] w fun e w' => e = .returned (.bool false) ∧ Drawn0 w w' := outer_ev g w hg 5 false (by kernel_rfl)
theorem outer_6 (g : Nat) (w : World) (hg : H0 g w) : Calls Tryz.prog 92 #[.slice (some ⟨g, 0, none⟩) 8 8, .int .i64 6] w fun e w' => e = .returned (.bool false) ∧ Drawn0 w w' := outer_ev g w hg 6 false (by kernel_rfl)
theorem outer_7 (g : Nat) (w : World) (hg : H0 g w) : Calls Tryz.prog 92 #[.slice (some ⟨g, 0, none⟩) 8 8, .int .i64 7] w fun e w' => e = .returned (.bool false) ∧ Drawn0 w w' := outer_ev g w hg 7 false (by kernel_rfl)
theorem outer_no (g : Nat) (w : World) (hg : H0 g w) (k : Nat) (hk : k = 0 ∨ k = 1 ∨ k = 6 ∨ k = 7 ∨ k = 4 ∨ k = 5) : Calls Tryz.prog 92 #[.slice (some ⟨g, 0, none⟩) 8 8, .int .i64 k] w fun e w' => e = .returned (.bool false) ∧ Drawn0 w w' := by
 rcases hk with rfl | rfl | rfl | rfl | rfl | rfl
 · exact outer_0 g w hg
 · exact outer_1 g w hg
 · exact outer_6 g w hg
 · exact outer_7 g w hg
 · exact outer_4 g w hg
 · exact outer_5 g w hg
theorem edges_c (g : Nat) (w : World) (hg : H0 g w) : Calls Tryz.prog 59 #[.slice (some ⟨g, 0, none⟩) 8 8] w fun e w' => (∃ ge c, 2 ≤ c ∧ e = .returned (.slice (some ⟨ge, 0, none⟩) 2 c) ∧ Pre w' ge 32 (edge1 ++ edge2)) ∧ Below w.heap.size w w' := by
 obtain ⟨i0, hi0, hz0, hz1, hz2⟩ := info_parts infoEdge
 have HG := Lib.hid hg
 clear hg
 go_enter Tryz.func59, Tryz.ntmps59
 go_wp2_with (go_at_call 90; (with_reducible refine (keys_c g _ HG.out).mono ?_); rintro e w1 ⟨⟨gk, ck, hck, rfl, hk⟩, hb1⟩; have HK := Lib.hid hk; have HB1 := Lib.hid hb1; clear hk hb1)
 go_loopw [3, 5] (fun x y wr => ∃ k : Int, y = .int .i64 k ∧ Hid ((k = 0 ∧ x = .slice none 0 0 ∧ wr = w1) ∨ (k = 1 ∧ ∃ ge c, 2 ≤ c ∧ x = .slice (some ⟨ge, 0, none⟩) 2 c ∧ Pre wr ge 32 (edge1 ++ edge2) ∧ Below w.heap.size w wr))) (fun _ y _ => (2 - intOf y).toNat)
 case atStart => exact ⟨0, rfl, Lib.hid (.inl ⟨rfl, rfl, rfl⟩)⟩
 case round =>
  obtain ⟨k, rfl, HI⟩ := hrel
  have hi := HI.out
  clear HI
  obtain ⟨wo, rfl⟩ : ∃ wo : World, wo = wr := ⟨_, rfl⟩
  rcases hi with ⟨rfl, rfl, rfl⟩ | ⟨rfl, ge, c, hc, rfl, hp, hb⟩
  · have k0 := HK.out.cell (i := 0) rfl
    have HGr := Lib.hid (HG.out.below HB1.out)
    go_wp2_with (go_at_call 91; (with_reducible refine (versions_ev g _ HGr.out).mono ?_); rintro e w2 ⟨⟨gv, cv, hcv, rfl, hv⟩, hb2⟩; have HE := Lib.hid (show EdS g gk gv w w2 from ⟨HGr.out.below hb2, HK.out.below hb2, hv, below_step HB1.out hb2⟩); clear hv hb2)
    clear k0 HGr HB1 HK HG
    go_loopw [3, 7] (fun x y v => ∃ n : Int, y = .int .i64 n ∧ Hid (EdS g gk gv w v ∧ ((n = 0 ∧ x = .slice none 0 0) ∨ (n = 1 ∧ ∃ ge c, x = .slice (some ⟨ge, 0, none⟩) 1 c ∧ v.ownsRow w.heap.size 32 5 x 1 edge1)))) (fun _ y _ => (2 - intOf y).toNat)
    case atStart => exact ⟨0, rfl, Lib.hid ⟨HE.out, .inl ⟨rfl, rfl⟩⟩⟩
    case round =>
     clear HE
     obtain ⟨n, rfl, HI⟩ := hrel
     obtain ⟨hE, hi⟩ := HI.out
     have HE := Lib.hid hE
     have v0 := hE.2.2.1.cell (i := 0) rfl; have v1 := hE.2.2.1.cell (i := 1) rfl
     have hzr := hE.2.2.2.size; have l0 := hE.2.2.1.lt; have l1 := hE.1.lt
     have f17 := hE.1.cell (i := 17) rfl; have f21 := hE.1.cell (i := 21) rfl
     clear HI hE
     obtain ⟨wn, rfl⟩ : ∃ wn : World, wn = wr := ⟨_, rfl⟩
     rcases hi with ⟨rfl, rfl⟩ | ⟨rfl, ge, c, rfl, ho⟩
     · skip
       have m0 := World.new_ne wn _ v0; have m1 := World.new_ne wn _ v1; have m2 := World.new_ne wn _ f17; have m3 := World.new_ne wn _ f21
       have HO := Lib.hid (World.ownsRow_nil wn w.heap.size 32 5)
       go_wp2
       go_quiet (fail)
       go_wp2
       have ew : IntKind.i64.wrap 1 = 1 := by decide
       go_region_held3 (fun w' => w'.cell? ⟨gv, 0, none⟩ = some (.int .i64 4) ∧ w'.cell? ⟨gv, 1, none⟩ = some (.int .i64 5) ∧ w'.cell? ⟨g, 17, none⟩ = some (.int .i64 1) ∧ w'.cell? ⟨g, 21, none⟩ = some (.int .i64 2))
        (first
          | go_keep
          | (go_split_ands
             refine ⟨?_, ?_, ?_, ?_⟩ <;> (rw [hgrow.cell_far _ (by simp; omega) (by simp [Value.ownBlock])]; go_keep)))
        ((go_loud (refine step_append_lies _ (by rfl) _ _ _ (by rfl) w.heap.size 32 i0 _ 5 40 Tryz.underlying25 hi0 hz0 hz1 hz2 rfl (by omega) (.slice none 0 0) 0 [] (by rfl) (((own_drewN HO.out _).alloc _).drew) ⟨wn.heap.size, 0, none⟩ 1 1 edge1 (by rfl) (by rfl) (cells_new_at _ _ _ _ (by simp)) (by simp [Value.oneCell', edge1]) (by omega) (by unfold maxLen; omega) (by omega) (by simp; omega) (wn.heap.size + 1) (by simp) ?_); intro gg cap w3 hown1 hgrow hat hlt))
       clear ew
       have hE3 := EdS.app (HE.out.drewN _) (own_drewN HO.out _) hgrow
       have HE3 := Lib.hid hE3; have HO3 := Lib.hid hown1
       clear hE3 hown1 hgrow hat hlt
       go_wp2
       go_roundw
       case rel => exact ⟨1, rfl, Lib.hid ⟨HE3.out, .inr ⟨rfl, gg, cap, rfl, HO3.out⟩⟩⟩
       case measure => simp [intOf]
     · have HO := Lib.hid ho
       clear ho v0 v1 f17 f21
       go_wp2
       go_loopw [3, 8] (fun x y v => ∃ i : Int, y = .int .i64 i ∧ Hid (EdS g gk gv w v ∧ 0 ≤ i ∧ ((i ≤ 3 ∧ ∃ ge c, x = .slice (some ⟨ge, 0, none⟩) 1 c ∧ v.ownsRow w.heap.size 32 5 x 1 edge1) ∨ (4 ≤ i ∧ i ≤ 8 ∧ ∃ ge c, x = .slice (some ⟨ge, 0, none⟩) 2 c ∧ v.ownsRow w.heap.size 32 5 x 2 (edge1 ++ edge2))))) (fun _ y _ => (9 - intOf y).toNat)
       case atStart => exact ⟨0, rfl, Lib.hid ⟨HE.out, by decide, .inl ⟨by decide, _, _, rfl, HO.out⟩⟩⟩
       case round =>
        clear HE HO
        obtain ⟨i, rfl, HI⟩ := hrel
        obtain ⟨hE, hi0', hi⟩ := HI.out
        have HE := Lib.hid hE; have HGi := Lib.hid hE.1
        have v0 := hE.2.2.1.cell (i := 0) rfl; have v1 := hE.2.2.1.cell (i := 1) rfl; have k0 := hE.2.1.cell (i := 0) rfl
        have hzi := hE.2.2.2.size; have l0' := hE.2.2.1.lt; have l1' := hE.1.lt
        clear HI hE
        obtain ⟨wi, rfl⟩ : ∃ wi : World, wi = wr := ⟨_, rfl⟩
        have hii : (i = 0 ∨ i = 1 ∨ i = 6 ∨ i = 7) ∨ (i = 4 ∨ i = 5) ∨ i = 2 ∨ i = 3 ∨ i = 8 := by rcases hi with ⟨h, _⟩ | ⟨h, h', _⟩ <;> omega
        rcases hii with hii | hii | rfl | rfl | rfl
        · obtain ⟨k, rfl⟩ : ∃ k : Nat, i = k := ⟨i.toNat, by omega⟩
          have hk : k = 0 ∨ k = 1 ∨ k = 6 ∨ k = 7 := by omega
          have f0 : wi.cell? ⟨g, k * 4 + 2, none⟩ = some (.string ⟨#[]⟩) := HGi.out.cell (i := k * 4 + 2) (by rcases hk with rfl | rfl | rfl | rfl <;> rfl)
          have hkl : k < 8 := by omega
          have HQ := Lib.hid hi; have HH := Lib.hid hk
          clear hi hii hk hi0'
          go_wp2_with (go_at_call 92; (with_reducible refine (outer_no g _ HGi.out k (by have := HH.out; omega)).mono ?_); rintro e w' ⟨rfl, ⟨nd, rfl⟩⟩)
          go_quiet (fail)
          go_wp2
          go_roundw
          case rel =>
           have hk := HH.out
           refine ⟨(k : Int) + 1, by go_num, Lib.hid ⟨HE.out.drewN _, by omega, ?_⟩⟩
           rcases HQ.out with ⟨h3, ge, c, rfl, ho⟩ | ⟨h4, h8, ge, c, rfl, ho⟩
           · exact .inl ⟨by omega, ge, c, rfl, own_drewN ho _⟩
           · exact .inr ⟨by omega, by omega, ge, c, rfl, own_drewN ho _⟩
          case measure => simp [intOf]; omega
        · obtain ⟨k, rfl⟩ : ∃ k : Nat, i = k := ⟨i.toNat, by omega⟩
          have hk : k = 4 ∨ k = 5 := by omega
          have f0 : wi.cell? ⟨g, k * 4 + 2, none⟩ = some (.string ⟨#[97]⟩) := HGi.out.cell (i := k * 4 + 2) (by rcases hk with rfl | rfl <;> rfl)
          have hkl : k < 8 := by omega
          have HQ := Lib.hid hi; have HH := Lib.hid hk
          clear hi hii hk hi0'
          go_wp2_with (go_at_call 92; (with_reducible refine (outer_no g _ HGi.out k (by have := HH.out; omega)).mono ?_); rintro e w' ⟨rfl, ⟨nd, rfl⟩⟩)
          go_quiet (fail)
          go_wp2
          go_roundw
          case rel =>
           have hk := HH.out
           refine ⟨(k : Int) + 1, by go_num, Lib.hid ⟨HE.out.drewN _, by omega, ?_⟩⟩
           rcases HQ.out with ⟨h3, ge, c, rfl, ho⟩ | ⟨h4, h8, ge, c, rfl, ho⟩
           · exact .inl ⟨by omega, ge, c, rfl, own_drewN ho _⟩
           · exact .inr ⟨by omega, by omega, ge, c, rfl, own_drewN ho _⟩
          case measure => simp [intOf]; omega
        · rcases hi with ⟨_, ge, c, rfl, ho⟩ | ⟨h4, _⟩
          rotate_left
          · omega
          have HO := Lib.hid ho
          clear ho hi0'
          have f0 := HGi.out.cell (i := 10) rfl; have f1 := HGi.out.cell (i := 9) rfl; have f3 := HGi.out.cell (i := 11) rfl
          have f17 := HGi.out.cell (i := 17) rfl; have f19 := HGi.out.cell (i := 19) rfl; have f23 := HGi.out.cell (i := 23) rfl
          go_wp2_with (go_at_call 92; (with_reducible refine (outer_2 g _ HGi.out).mono ?_); rintro e w' ⟨rfl, ⟨nd, rfl⟩⟩)
          go_quiet (fail)
          go_wp2
          go_loopw [10, 11] (fun a y v => a = .int .i64 (-1) ∧ ∃ n : Int, y = .int .i64 n ∧ (n = 1 ∨ n = 0 ∨ n = -1) ∧ ∃ m, v = wi.drewN m) (fun _ y _ => (intOf y + 1).toNat)
          case atStart => exact ⟨rfl, 1, rfl, .inl rfl, _, rfl⟩
          case round =>
           obtain ⟨rfl, n, rfl, hn, m, rfl⟩ := hrel
           rcases hn with rfl | rfl | rfl
           · go_wp2
             go_quiet (fail)
             go_wp2
             go_roundw
             case rel => exact ⟨rfl, 0, rfl, .inr (.inl rfl), _, rfl⟩
             case measure => simp [intOf]
           · go_wp2
             go_quiet (fail)
             go_wp2
             go_roundw
             case rel => exact ⟨rfl, -1, rfl, .inr (.inr rfl), _, rfl⟩
             case measure => simp [intOf]
           · have ew : IntKind.i64.wrap 0 = 0 := by decide
             go_wp2
             go_quiet (fail)
             go_wp2
             go_quiet (fail)
             go_wp2
             go_roundw
             case rel => exact ⟨3, rfl, Lib.hid ⟨HE.out.drewN _, by decide, .inl ⟨by decide, _, _, rfl, own_drewN HO.out _⟩⟩⟩
             case measure => simp [intOf]
        · rcases hi with ⟨_, ge, c, rfl, ho⟩ | ⟨h4, _⟩
          rotate_left
          · omega
          have HO := Lib.hid ho
          clear ho hi0'
          have f0 := HGi.out.cell (i := 14) rfl; have f1 := HGi.out.cell (i := 13) rfl; have f3 := HGi.out.cell (i := 15) rfl
          have f17 := HGi.out.cell (i := 17) rfl; have f19 := HGi.out.cell (i := 19) rfl; have f23 := HGi.out.cell (i := 23) rfl
          go_wp2_with (go_at_call 92; (with_reducible refine (outer_3 g _ HGi.out).mono ?_); rintro e w' ⟨rfl, ⟨nd, rfl⟩⟩)
          go_quiet (fail)
          go_wp2
          go_loopw [10, 11] (fun a y v => a = .int .i64 (-1) ∧ ∃ n : Int, y = .int .i64 n ∧ (n = 1 ∨ n = 0 ∨ n = -1) ∧ ∃ m, v = wi.drewN m) (fun _ y _ => (intOf y + 1).toNat)
          case atStart => exact ⟨rfl, 1, rfl, .inl rfl, _, rfl⟩
          case round =>
           obtain ⟨rfl, n, rfl, hn, m, rfl⟩ := hrel
           rcases hn with rfl | rfl | rfl
           · go_wp2
             go_quiet (fail)
             go_wp2
             go_roundw
             case rel => exact ⟨rfl, 0, rfl, .inr (.inl rfl), _, rfl⟩
             case measure => simp [intOf]
           · go_wp2
             go_quiet (fail)
             go_wp2
             go_roundw
             case rel => exact ⟨rfl, -1, rfl, .inr (.inr rfl), _, rfl⟩
             case measure => simp [intOf]
           · have ew : IntKind.i64.wrap 0 = 0 := by decide
             have m0 := World.new_ne wi _ v0; have m1 := World.new_ne wi _ f1; have m2 := World.new_ne wi _ f17
             have hngv : some gv ≠ (Value.slice (some ⟨ge, 0, none⟩) 1 c).ownBlock := HE.out.2.2.1.ne_row HO.out (by decide)
             have hng : some g ≠ (Value.slice (some ⟨ge, 0, none⟩) 1 c).ownBlock := (Pre.of_row HE.out.1).ne_row HO.out (by decide)
             have HNV := Lib.hid hngv; have HNG := Lib.hid hng
             clear hngv hng
             go_wp2
             go_quiet (fail)
             go_wp2
             go_quiet (fail)
             go_wp2
             go_region_held3 (fun w' => w'.cell? ⟨gv, 0, none⟩ = some (.int .i64 4) ∧ w'.cell? ⟨g, 13, none⟩ = some (.int .i64 2) ∧ w'.cell? ⟨g, 17, none⟩ = some (.int .i64 1))
              (first
                | go_keep
                | (go_split_ands
                   refine ⟨?_, ?_, ?_⟩
                   · (rw [hgrow.cell_far _ (by simp; omega) HNV.out]; go_keep)
                   · (rw [hgrow.cell_far _ (by simp; omega) HNG.out]; go_keep)
                   · (rw [hgrow.cell_far _ (by simp; omega) HNG.out]; go_keep)))
              ((go_loud (refine step_append_lies _ (by rfl) _ _ _ (by rfl) w.heap.size 32 i0 _ 5 40 Tryz.underlying25 hi0 hz0 hz1 hz2 rfl (by omega) (.slice (some ⟨ge, 0, none⟩) 1 c) 1 edge1 (by rfl) (((own_drewN HO.out _).alloc _).drew) ⟨wi.heap.size, 0, none⟩ 1 1 edge2 (by rfl) (by rfl) (cells_new_at _ _ _ _ (by simp)) (by simp [Value.oneCell', edge2]) (by omega) (by unfold maxLen; omega) (by omega) (by simp; omega) (wi.heap.size + 1) (by simp) ?_); intro gg cap w3 hown1 hgrow hat hlt))
             clear ew
             have hE3 := EdS.app (HE.out.drewN _) (own_drewN HO.out _) hgrow
             have HE3 := Lib.hid hE3; have HO3 := Lib.hid hown1
             clear hE3 hown1 hgrow hat hlt
             go_wp2
             go_roundw
             case rel => exact ⟨4, rfl, Lib.hid ⟨HE3.out, by decide, .inr ⟨by decide, by decide, gg, cap, rfl, HO3.out⟩⟩⟩
             case measure => simp [intOf]
        · rcases hi with ⟨h3, _⟩ | ⟨_, _, ge, c, rfl, ho⟩
          · omega
          have HO := Lib.hid ho
          clear ho hi0'
          go_wp2
          go_roundw
          case rel => exact ⟨1, rfl, Lib.hid (.inr ⟨rfl, ge, c, (row_cap HO.out).1, rfl, Pre.of_own HO.out, HE.out.2.2.2⟩)⟩
          case measure => simp [intOf]
  · go_wp2
    go_ret
    exact ⟨⟨ge, c, hc, rfl, hp⟩, hb⟩
end Go.Proofs.YtjlpjpjodhkpdaaGreatDoor
