/- The document's example: its keys. -/
import Derived.Test.YtjlpjpjodhkpdaaGreatDoorShB
import Derived.Test.YtjlpjpjodhkpdaaGreatDoorQL
set_option maxHeartbeats 4000000
set_option maxRecDepth 100000
set_option linter.unusedVariables false
set_option linter.unusedSimpArgs false
namespace Go.Proofs.YtjlpjpjodhkpdaaGreatDoor
open Go.RowKit Go.Proofs.YtjlpjpjodhkpdaaGreatDoor.Q Go.Proofs.YtjlpjpjodhkpdaaGreatDoorW.PrintWords
theorem infoStr9 : (Tryz.prog.info? 9).map (fun i => (i.zero, i.size, i.bytes)) = some (some (.string ⟨#[]⟩), 1, 16) := by kernel_rfl
theorem less_ev (w : World) : Calls Tryz.prog 121 #[.string ⟨#[97]⟩, .string ⟨#[97]⟩] w fun e w' => e = .returned (.bool false) ∧ Drawn0 w w' :=
 cartoucheref01_Less.calls 20 ⟨#[97]⟩ ⟨#[97]⟩ false w (by kernel_rfl)
theorem keys_c (g : Nat) (w : World) (hg : H0 g w) : Calls Tryz.prog 90 #[.slice (some ⟨g, 0, none⟩) 8 8] w fun e w' => (∃ gk c, 1 ≤ c ∧ e = .returned (.slice (some ⟨gk, 0, none⟩) 1 c) ∧ Pre w' gk 9 [.string ⟨#[97]⟩]) ∧ Below w.heap.size w w' := by
 obtain ⟨i0, hi0, hz0, hz1, hz2⟩ := info_parts infoStr9
 have HG := Lib.hid hg
 clear hg
 go_enter Tryz.func90, Tryz.ntmps90
 go_wp2
 go_loopw [3, 4] (fun x y wr => ∃ i : Int, y = .int .i64 i ∧ Hid (0 ≤ i ∧ ((i ≤ 2 ∧ x = .slice none 0 0) ∨ (3 ≤ i ∧ i ≤ 8 ∧ ∃ gk c, 1 ≤ c ∧ x = .slice (some ⟨gk, 0, none⟩) 1 c ∧ Pre wr gk 9 [.string ⟨#[97]⟩]))) ∧ Below w.heap.size w wr) (fun _ y _ => (9 - intOf y).toNat)
 case atStart => exact ⟨0, rfl, Lib.hid ⟨by decide, .inl ⟨by decide, rfl⟩⟩, Below.refl _ _⟩
 case round =>
  obtain ⟨i, rfl, HI, hB⟩ := hrel
  obtain ⟨hi0', hi⟩ := HI.out
  have HB := Lib.hid hB; have HGr := Lib.hid (HG.out.below hB)
  have hzr := hB.size
  clear HI hB
  obtain ⟨wo, rfl⟩ : ∃ wo : World, wo = wr := ⟨_, rfl⟩
  rcases hi with ⟨hi2, rfl⟩ | ⟨hi3, hi8, gk, c, hc, rfl, hk⟩
  · have hii : i = 0 ∨ i = 1 ∨ i = 2 := by omega
    clear hi0' hi2
    rcases hii with rfl | rfl | rfl
    · have c0 := HGr.out.cell (i := 0) rfl
      go_wp2
      go_roundw
      case rel => exact ⟨1, rfl, Lib.hid ⟨by decide, .inl ⟨by decide, rfl⟩⟩, HB.out⟩
      case measure => simp [intOf]
    · have c0 := HGr.out.cell (i := 4) rfl
      go_wp2
      go_roundw
      case rel => exact ⟨2, rfl, Lib.hid ⟨by decide, .inl ⟨by decide, rfl⟩⟩, HB.out⟩
      case measure => simp [intOf]
    · have c0 := HGr.out.cell (i := 8) rfl; have c2 := HGr.out.cell (i := 10) rfl
      go_wp2
      go_loopw [5] (fun y v => y = .int .i64 0 ∧ ∃ n, v = wo.drewN n) (fun _ _ => 0)
      case atStart => exact ⟨rfl, 0, rfl⟩
      case round =>
       obtain ⟨rfl, n, rfl⟩ := hrel
       have sA : ∀ m, ((wo.drewN m).alloc (.cells #[] 9)).cell? ⟨g, 10, none⟩ = some (.string ⟨#[97]⟩) := fun m => (RowIs.alloc (RowIs.drewN HGr.out m) _).cell (i := 10) rfl
       go_wp2
       go_quiet (fail)
       go_wp2
       go_quiet (fail)
       go_wp2_with (at_builtin; refine wpList_append_own_at _ rfl _ _ 45 rfl w.heap.size 9 i0 (.string ⟨#[]⟩) 1 16 Tryz.underlying45 hi0 hz0 hz1 hz2 rfl (by decide) (.slice (some ⟨wo.heap.size, 0, none⟩) 0 0) 0 [] rfl ((empty_row (wo.drewN _) w.heap.size 9 1 hzr).alloc _) _ 1 1 [.string ⟨#[97]⟩] rfl rfl (cell_new_at _ _ _ _ (by simp)) (by simp [Value.oneCell']) (by unfold maxLen; omega) (by omega) (by simp; omega) ?_; intro v' w1 hown' hgrow _ hlies; obtain ⟨gl, cl, rfl⟩ := ownsRow_succ hown'; have hcl : 1 ≤ cl := (row_cap hown').1)
       go_roundw
       case rel => exact ⟨3, rfl, Lib.hid ⟨by decide, .inr ⟨by decide, by decide, gl, cl, hcl, rfl, Pre.of_own (n := 1) hown'⟩⟩, (below_alloc (below_alloc (pw_below_drewN HB.out _) _) _).grown hgrow (by simp; omega) (fun k e => by simp [Value.ownBlock] at e; omega)⟩
       case measure => simp [intOf]
  · have hii : i = 3 ∨ i = 4 ∨ i = 5 ∨ i = 6 ∨ i = 7 ∨ i = 8 := by omega
    clear hi0' hi3 hi8
    have HK := Lib.hid hk
    have k0 := hk.cell (i := 0) rfl
    clear hk
    rcases hii with rfl | rfl | rfl | rfl | rfl | rfl
    · have c0 := HGr.out.cell (i := 12) rfl; have c2 := HGr.out.cell (i := 14) rfl
      go_wp2
      go_loopw [5] (fun y v => y = .int .i64 0 ∧ ∃ n, v = wo.drewN n) (fun _ _ => 0)
      case atStart => exact ⟨rfl, 0, rfl⟩
      case round =>
       obtain ⟨rfl, n, rfl⟩ := hrel
       go_wp2
       go_quiet ((go_at_call 121; (with_reducible refine (less_ev _).mono ?_); rintro e w' ⟨rfl, ⟨nd, rfl⟩⟩; (first | exact ⟨rfl, _, World.drewN_drewN _ _ _⟩ | exact ⟨rfl, _, Eq.trans (World.drewN_drewN _ _ _) (congrArg (World.drewN _) (Nat.add_assoc _ _ _))⟩)))
       go_wp2
       go_quiet (fail)
       go_wp2
       go_roundw
       case rel => exact ⟨4, rfl, Lib.hid ⟨by decide, .inr ⟨by decide, by decide, gk, c, hc, rfl, Pre.drewN HK.out _⟩⟩, pw_below_drewN HB.out _⟩
       case measure => simp [intOf]
    · have c0 := HGr.out.cell (i := 16) rfl; have c2 := HGr.out.cell (i := 18) rfl
      go_wp2
      go_loopw [5] (fun y v => y = .int .i64 0 ∧ ∃ n, v = wo.drewN n) (fun _ _ => 0)
      case atStart => exact ⟨rfl, 0, rfl⟩
      case round =>
       obtain ⟨rfl, n, rfl⟩ := hrel
       go_wp2
       go_quiet ((go_at_call 121; (with_reducible refine (less_ev _).mono ?_); rintro e w' ⟨rfl, ⟨nd, rfl⟩⟩; (first | exact ⟨rfl, _, World.drewN_drewN _ _ _⟩ | exact ⟨rfl, _, Eq.trans (World.drewN_drewN _ _ _) (congrArg (World.drewN _) (Nat.add_assoc _ _ _))⟩)))
       go_wp2
       go_quiet (fail)
       go_wp2
       go_roundw
       case rel => exact ⟨5, rfl, Lib.hid ⟨by decide, .inr ⟨by decide, by decide, gk, c, hc, rfl, Pre.drewN HK.out _⟩⟩, pw_below_drewN HB.out _⟩
       case measure => simp [intOf]
    · have c0 := HGr.out.cell (i := 20) rfl; have c2 := HGr.out.cell (i := 22) rfl
      go_wp2
      go_loopw [5] (fun y v => y = .int .i64 0 ∧ ∃ n, v = wo.drewN n) (fun _ _ => 0)
      case atStart => exact ⟨rfl, 0, rfl⟩
      case round =>
       obtain ⟨rfl, n, rfl⟩ := hrel
       go_wp2
       go_quiet ((go_at_call 121; (with_reducible refine (less_ev _).mono ?_); rintro e w' ⟨rfl, ⟨nd, rfl⟩⟩; (first | exact ⟨rfl, _, World.drewN_drewN _ _ _⟩ | exact ⟨rfl, _, Eq.trans (World.drewN_drewN _ _ _) (congrArg (World.drewN _) (Nat.add_assoc _ _ _))⟩)))
       go_wp2
       go_quiet (fail)
       go_wp2
       go_roundw
       case rel => exact ⟨6, rfl, Lib.hid ⟨by decide, .inr ⟨by decide, by decide, gk, c, hc, rfl, Pre.drewN HK.out _⟩⟩, pw_below_drewN HB.out _⟩
       case measure => simp [intOf]
    · have c0 := HGr.out.cell (i := 24) rfl
      go_wp2
      go_roundw
      case rel => exact ⟨7, rfl, Lib.hid ⟨by decide, .inr ⟨by decide, by decide, gk, c, hc, rfl, HK.out⟩⟩, HB.out⟩
      case measure => simp [intOf]
    · have c0 := HGr.out.cell (i := 28) rfl
      go_wp2
      go_roundw
      case rel => exact ⟨8, rfl, Lib.hid ⟨by decide, .inr ⟨by decide, by decide, gk, c, hc, rfl, HK.out⟩⟩, HB.out⟩
      case measure => simp [intOf]
    · go_wp2
      go_ret
      exact ⟨⟨gk, c, hc, rfl, HK.out⟩, HB.out⟩
end Go.Proofs.YtjlpjpjodhkpdaaGreatDoor
