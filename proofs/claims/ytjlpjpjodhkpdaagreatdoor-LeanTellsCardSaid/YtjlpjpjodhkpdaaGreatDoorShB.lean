/- The document's example: its steps. · The document's example: there is no order. · The document's example: where steps begin. · The document's example: who reaches whom in so many steps. -/
import Derived.Test.YtjlpjpjodhkpdaaGreatDoorCc
import Derived.Test.YtjlpjpjodhkpdaaGreatDoorQH
import Derived.Test.YtjlpjpjodhkpdaaGreatDoorShA
import Derived.Test.YtjlpjpjodhkpdaaGreatDoorQC
set_option maxHeartbeats 8000000
set_option maxRecDepth 100000
set_option linter.unusedVariables false
set_option linter.unusedSimpArgs false
namespace Go.Proofs.YtjlpjpjodhkpdaaGreatDoor
open Go.RowKit Go.Proofs.YtjlpjpjodhkpdaaGreatDoor.Q Go.Proofs.YtjlpjpjodhkpdaaGreatDoorW.PrintWords
theorem infoStep : (Tryz.prog.info? 109).map (fun i => (i.zero, i.size, i.bytes)) = some (some (.agg #[.int .i64 0, .int .i64 0, .slice none 0 0]), 3, 40) := by kernel_rfl
def edge1 : List Value := [.int .i64 1, .int .i64 1, .int .i64 2, .int .i64 4, .int .i64 5]
def edge2 : List Value := [.int .i64 3, .int .i64 2, .int .i64 1, .int .i64 3, .int .i64 4]
def step1 (g : Nat) : List Value := [.int .i64 1, .int .i64 2, .slice (some ⟨g, 0, none⟩) 1 1]
def step2 (g : Nat) : List Value := [.int .i64 2, .int .i64 1, .slice (some ⟨g, 0, none⟩) 1 1]
def StepsAt (b : Nat) (k : Int) (x : Value) (W : World) : Prop :=
 (k = 0 ∧ x = .slice none 0 0) ∨ (k = 1 ∧ ∃ g c g1, x = .slice (some ⟨g, 0, none⟩) 1 c ∧ W.ownsRow b 109 3 x 1 (step1 g1) ∧ Pre W g1 32 edge1) ∨
 (k = 2 ∧ ∃ g c g1 g2, x = .slice (some ⟨g, 0, none⟩) 2 c ∧ W.ownsRow b 109 3 x 2 (step1 g1 ++ step2 g2) ∧ Pre W g1 32 edge1 ∧ Pre W g2 32 edge2)
theorem steps_c (ge ce : Nat) (w : World) (hp : Pre w ge 32 (edge1 ++ edge2)) : Calls Tryz.prog 58 #[.int .i64 1, .slice (some ⟨ge, 0, none⟩) 2 ce] w fun e w' => (∃ x, e = .returned x ∧ StepsAt w.heap.size 2 x w') ∧ Below w.heap.size w w' := by
 obtain ⟨i0, hi0, hz0, hz1, hz2⟩ := info_parts infoStep
 have HP := Lib.hid hp
 clear hp
 go_enter Tryz.func58, Tryz.ntmps58
 go_wp2
 go_loopw [5, 6] (fun x y wr => ∃ k : Int, y = .int .i64 k ∧ Hid (StepsAt w.heap.size k x wr) ∧ Below w.heap.size w wr) (fun _ y _ => (3 - intOf y).toNat)
 case atStart => exact ⟨0, rfl, Lib.hid (.inl ⟨rfl, rfl⟩), Below.refl _ _⟩
 case round =>
  obtain ⟨k, rfl, HS, hB⟩ := hrel
  have hs := HS.out
  clear HS
  have HB := Lib.hid hB
  have HPr := Lib.hid (HP.out.below hB)
  have hzr := hB.size
  clear hB
  rcases hs with ⟨rfl, rfl⟩ | ⟨rfl, g, c, g1, rfl, ho, h1⟩ | ⟨rfl, g, c, g1, g2, rfl, ho, h1, h2⟩
  · have c0 := HPr.out.cell (i := 0) rfl; have c1 := HPr.out.cell (i := 1) rfl; have c2 := HPr.out.cell (i := 2) rfl; have c3 := HPr.out.cell (i := 3) rfl; have c4 := HPr.out.cell (i := 4) rfl
    have n0 := World.new_ne wr _ c0; have n1 := World.new_ne wr _ c1; have n2 := World.new_ne wr _ c2; have n3 := World.new_ne wr _ c3; have n4 := World.new_ne wr _ c4
    have HO := Lib.hid (World.ownsRow_nil wr w.heap.size 109 3)
    have hnews := heap_alloc_new (wr.alloc (.cells #[.int .i64 1, .int .i64 1, .int .i64 2, .int .i64 4, .int .i64 5] 32)) (.cells #[.int .i64 1, .int .i64 2, .slice (some ⟨wr.heap.size, 0, none⟩) 1 1] 109)
    rw [World.size_alloc] at hnews
    have hne : some ge ≠ (Value.ownBlock (.slice none 0 0)) := HPr.out.ne_row HO.out (by decide)
    have HN := Lib.hid hnews; have HNE := Lib.hid hne
    clear hnews hne
    have hltg := HPr.out.lt
    go_wp2
    go_region_held3 (fun w' => w'.cell? ⟨ge, 0, none⟩ = some (.int .i64 1) ∧ w'.cell? ⟨ge, 1, none⟩ = some (.int .i64 1) ∧ w'.cell? ⟨ge, 2, none⟩ = some (.int .i64 2) ∧ w'.cell? ⟨ge, 3, none⟩ = some (.int .i64 4) ∧ w'.cell? ⟨ge, 4, none⟩ = some (.int .i64 5))
     (first
       | go_keep
       | (go_split_ands
          refine ⟨?_, ?_, ?_, ?_, ?_⟩ <;> (rw [hgrow.cell_far _ (by simp; omega) HNE.out]; go_keep)))
     ((go_loud (refine step_append_lies _ (by rfl) _ _ _ (by rfl) w.heap.size 109 i0 _ 3 40 Tryz.underlying103 hi0 hz0 hz1 hz2 rfl (by omega) (.slice none 0 0) 0 _ (by rfl) (((HO.out.alloc _).alloc _).drew) ⟨wr.heap.size + 1, 0, none⟩ 1 1 (step1 wr.heap.size) (by rfl) (by rfl) (World.news_of_block HN.out) (by simp [Value.oneCell', step1, step2]) (by omega) (by unfold maxLen; omega) (by omega) (by simp; omega) (wr.heap.size + 2) (by simp) ?_); intro gg cap w1 hown1 hgrow hat hlt))
    have hB1 := (((HB.out.alloc hzr _).alloc (by simp; omega) _).drew).grown hgrow (by simp; omega) (row_low HO.out)
    have hE := (((Pre.new wr 32 edge1).alloc (.cells #[.int .i64 1, .int .i64 2, .slice (some ⟨wr.heap.size, 0, none⟩) 1 1] 109)).drew).kept hgrow (Pre.ne_row ((Pre.new wr 32 edge1).alloc (.cells #[.int .i64 1, .int .i64 2, .slice (some ⟨wr.heap.size, 0, none⟩) 1 1] 109)) ((HO.out.alloc _).alloc _) (by decide))
    have HB1 := Lib.hid hB1; have HE := Lib.hid hE; have HO1 := Lib.hid hown1
    clear hB1 hE hown1 hgrow hat hlt
    go_wp2
    obtain ⟨wo, rfl⟩ : ∃ wo : World, wo = wr := ⟨_, rfl⟩
    go_loop [5, 7] (fun x y => x = .slice (some ⟨gg, 0, none⟩) 1 cap ∧ y = .int .i64 0) (fun _ _ => 0)
    case atStart => exact ⟨rfl, rfl⟩
    case round =>
     obtain ⟨rfl, rfl⟩ := hrel
     go_wp2
     go_roundw
     case rel => exact ⟨1, rfl, Lib.hid ((.inr (.inl ⟨rfl, gg, cap, wo.heap.size, rfl, HO1.out, HE.out⟩))), HB1.out⟩
     case measure => simp [intOf]
  · have c0 := HPr.out.cell (i := 5) rfl; have c1 := HPr.out.cell (i := 6) rfl; have c2 := HPr.out.cell (i := 7) rfl; have c3 := HPr.out.cell (i := 8) rfl; have c4 := HPr.out.cell (i := 9) rfl
    have n0 := World.new_ne wr _ c0; have n1 := World.new_ne wr _ c1; have n2 := World.new_ne wr _ c2; have n3 := World.new_ne wr _ c3; have n4 := World.new_ne wr _ c4
    have HO := Lib.hid ho
    have hnews := heap_alloc_new (wr.alloc (.cells #[.int .i64 3, .int .i64 2, .int .i64 1, .int .i64 3, .int .i64 4] 32)) (.cells #[.int .i64 2, .int .i64 1, .slice (some ⟨wr.heap.size, 0, none⟩) 1 1] 109)
    rw [World.size_alloc] at hnews
    have hne : some ge ≠ (Value.ownBlock (.slice (some ⟨g, 0, none⟩) 1 c)) := HPr.out.ne_row HO.out (by decide)
    have HN := Lib.hid hnews; have HNE := Lib.hid hne
    clear ho hnews hne
    have hltg := HPr.out.lt
    go_wp2
    go_region_held3 (fun w' => w'.cell? ⟨ge, 5, none⟩ = some (.int .i64 3) ∧ w'.cell? ⟨ge, 6, none⟩ = some (.int .i64 2) ∧ w'.cell? ⟨ge, 7, none⟩ = some (.int .i64 1) ∧ w'.cell? ⟨ge, 8, none⟩ = some (.int .i64 3) ∧ w'.cell? ⟨ge, 9, none⟩ = some (.int .i64 4))
     (first
       | go_keep
       | (go_split_ands
          refine ⟨?_, ?_, ?_, ?_, ?_⟩ <;> (rw [hgrow.cell_far _ (by simp; omega) HNE.out]; go_keep)))
     ((go_loud (refine step_append_lies _ (by rfl) _ _ _ (by rfl) w.heap.size 109 i0 _ 3 40 Tryz.underlying103 hi0 hz0 hz1 hz2 rfl (by omega) (.slice (some ⟨g, 0, none⟩) 1 c) 1 _ (by rfl) (((HO.out.alloc _).alloc _).drew) ⟨wr.heap.size + 1, 0, none⟩ 1 1 (step2 wr.heap.size) (by rfl) (by rfl) (World.news_of_block HN.out) (by simp [Value.oneCell', step1, step2]) (by omega) (by unfold maxLen; omega) (by omega) (by simp; omega) (wr.heap.size + 2) (by simp) ?_); intro gg cap w1 hown1 hgrow hat hlt))
    have hB1 := (((HB.out.alloc hzr _).alloc (by simp; omega) _).drew).grown hgrow (by simp; omega) (row_low HO.out)
    have hE := (((Pre.new wr 32 edge2).alloc (.cells #[.int .i64 2, .int .i64 1, .slice (some ⟨wr.heap.size, 0, none⟩) 1 1] 109)).drew).kept hgrow (Pre.ne_row ((Pre.new wr 32 edge2).alloc (.cells #[.int .i64 2, .int .i64 1, .slice (some ⟨wr.heap.size, 0, none⟩) 1 1] 109)) ((HO.out.alloc _).alloc _) (by decide))
    have HE1 := Lib.hid ((((h1.alloc (.cells edge2.toArray 32)).alloc (.cells #[.int .i64 2, .int .i64 1, .slice (some ⟨wr.heap.size, 0, none⟩) 1 1] 109)).drew).kept hgrow (h1.ne_row HO.out (by decide)))
    have HB1 := Lib.hid hB1; have HE := Lib.hid hE; have HO1 := Lib.hid hown1
    clear hB1 hE hown1 hgrow hat hlt
    go_wp2
    obtain ⟨wo, rfl⟩ : ∃ wo : World, wo = wr := ⟨_, rfl⟩
    go_loop [5, 7] (fun x y => x = .slice (some ⟨gg, 0, none⟩) 2 cap ∧ y = .int .i64 0) (fun _ _ => 0)
    case atStart => exact ⟨rfl, rfl⟩
    case round =>
     obtain ⟨rfl, rfl⟩ := hrel
     go_wp2
     go_roundw
     case rel => exact ⟨2, rfl, Lib.hid ((.inr (.inr ⟨rfl, gg, cap, g1, wo.heap.size, rfl, HO1.out, HE1.out, HE.out⟩))), HB1.out⟩
     case measure => simp [intOf]
  · go_wp2
    go_ret
    exact ⟨⟨_, rfl, .inr (.inr ⟨rfl, g, c, g1, g2, rfl, ho, h1, h2⟩)⟩, HB.out⟩
end Go.Proofs.YtjlpjpjodhkpdaaGreatDoor
namespace Go.Proofs.YtjlpjpjodhkpdaaGreatDoor
open Go.RowKit Go.Proofs.YtjlpjpjodhkpdaaGreatDoor.Q Go.Proofs.YtjlpjpjodhkpdaaGreatDoorW.PrintWords
theorem infoInt : (Tryz.prog.info? 3).map (fun i => (i.zero, i.size, i.bytes)) = some (some (.int .i64 0), 1, 8) := by kernel_rfl
theorem kci {w : World} {g : Nat} {xs : List Int} (hl : xs.length ≤ 9223372036854775807) (h : Pre w g 3 (xs.map (Value.int .i64))) : Kd.C (Kd.int .i64) w (some ⟨g, 0, none⟩) xs.length xs := by
 refine ⟨rfl, hl, fun _ => ⟨_, rfl, fun j p hj => ⟨[.int .i64 p], rfl, rfl, fun i u hu => ?_⟩⟩⟩
 obtain rfl : i = 0 := by
  have := (List.getElem?_eq_some_iff.1 hu).1
  simpa using this
 rw [add0]
 refine h.cell ?_
 show (xs.map (Value.int .i64))[j * 1 + 0]? = some u
 rw [Nat.mul_one, Nat.add_zero, List.getElem?_map, hj]
 exact hu
theorem has_ev (g c : Nat) (w : World) (n : Nat) (xs : List Int) (hn : xs.length = n) (hl : n ≤ 9223372036854775807) (h : Pre w g 3 (xs.map (Value.int .i64))) (hc : n ≤ c) (a : Int) (r : Bool) (he : cartoucheref11_has.f 20 xs a = some r) :
 Calls Tryz.prog 122 #[.slice (some ⟨g, 0, none⟩) n c, .int .i64 a] w fun e w' => e = .returned (.bool r) ∧ Drawn0 w w' := by
 subst hn
 exact cartoucheref11_has.calls 20 (some ⟨g, 0, none⟩) c xs a r w (kci hl h) hc he
theorem empty_row (w : World) (b t s : Nat) (hb : b ≤ w.heap.size) : (w.alloc (.cells #[] t)).ownsRow b t s (.slice (some ⟨w.heap.size, 0, none⟩) 0 0) 0 [] :=
 ⟨by simp, .inr ⟨w.heap.size, 0, #[], rfl, hb, heap_alloc_new w _, Nat.le_refl _, by unfold maxLen; omega, by simp, by simp⟩⟩
theorem order_c (gn cn gs cs g1 g2 : Nat) (hcn : 2 ≤ cn) (w : World) (hn : Pre w gn 3 [.int .i64 1, .int .i64 2]) (hs : Pre w gs 109 (step1 g1 ++ step2 g2)) :
 Calls Tryz.prog 93 #[.slice (some ⟨gn, 0, none⟩) 2 cn, .slice (some ⟨gs, 0, none⟩) 2 cs] w fun e w' => e = .returned (.tuple #[.slice none 0 0, .bool false]) ∧ Below w.heap.size w w' := by
 obtain ⟨i0, hi0, hz0, hz1, hz2⟩ := info_parts infoInt
 have HN := Lib.hid hn; have HS := Lib.hid hs
 have ho := empty_row w w.heap.size 3 1 (Nat.le_refl _)
 have hnews : ∀ j u, [Value.int .i64 1, Value.int .i64 2][j]? = some u → (w.alloc (.cells #[] 3)).cell? ((⟨gn, 0, none⟩ : Addr).add j) = some u := fun j u hj => by rw [add0]; exact (hn.alloc _).cell hj
 have HO := Lib.hid ho; have HW := Lib.hid hnews
 clear hn hs ho hnews
 go_enter Tryz.func93, Tryz.ntmps93
 go_wp2_with (at_builtin; refine wpList_append_own_at _ rfl _ _ 22 rfl w.heap.size 3 i0 (.int .i64 0) 1 8 Tryz.underlying22 hi0 hz0 hz1 hz2 rfl (by decide) (.slice (some ⟨w.heap.size, 0, none⟩) 0 0) 0 _ rfl HO.out _ 2 cn [.int .i64 1, .int .i64 2] rfl rfl HW.out (by simp [Value.oneCell']) (by unfold maxLen; omega) (by omega) (by simp) ?_; intro v' w1 hown' hgrow _ hlies; obtain ⟨gl, cl, rfl⟩ := ownsRow_succ hown')
 have hpl : Pre w1 gl 3 [.int .i64 1, .int .i64 2] := Pre.of_own (n := 2) hown'
 have hps := (HS.out.alloc (.cells #[] 3)).kept hgrow ((HS.out.alloc (.cells #[] 3)).ne_row HO.out (by decide))
 have hb := (((Below.refl w.heap.size w).alloc (Nat.le_refl _) (.cells #[] 3))).grown hgrow (by simp) (row_low HO.out)
 have hcl : 2 ≤ cl := (row_cap hown').1
 have HB := Lib.hid hb; have HPL := Lib.hid hpl; have HPS := Lib.hid hps
 clear hown' hgrow hlies hb hpl hps HN HS HO HW
 go_loopw [6] (fun x wr => x = .slice (some ⟨gl, 0, none⟩) 2 cl ∧ wr = w1) (fun _ _ => 0)
 case atStart => exact ⟨rfl, rfl⟩
 case round =>
  obtain ⟨rfl, rfl⟩ := hrel
  obtain ⟨wo, rfl⟩ : ∃ wo : World, wo = wr := ⟨_, rfl⟩
  go_wp2
  go_loopw [9, 10] (fun f y v => f = .bool false ∧ ∃ i : Int, y = .int .i64 i ∧ (i = 0 ∨ i = 1 ∨ i = 2) ∧ ∃ n, v = wo.drewN n) (fun _ y _ => (3 - intOf y).toNat)
  case atStart => exact ⟨rfl, 0, rfl, .inl rfl, 0, rfl⟩
  case round =>
   obtain ⟨rfl, i, rfl, hi, n, rfl⟩ := hrel
   have s0 := HPS.out.cell (i := 0) rfl; have s1 := HPS.out.cell (i := 1) rfl; have s3 := HPS.out.cell (i := 3) rfl; have s4 := HPS.out.cell (i := 4) rfl
   have l0 := HPL.out.cell (i := 0) rfl; have l1 := HPL.out.cell (i := 1) rfl
   rcases hi with rfl | rfl | rfl
   · go_wp2
     go_loopw [11, 12] (fun f y v => ∃ k : Int, y = .int .i64 k ∧ (k = 0 ∧ f = .bool true ∨ k = 1 ∧ f = .bool true ∨ k = 2 ∧ f = .bool false) ∧ ∃ n, v = wo.drewN n) (fun _ y _ => (3 - intOf y).toNat)
     case atStart => exact ⟨0, rfl, .inl ⟨rfl, rfl⟩, n, rfl⟩
     case round =>
      obtain ⟨k, rfl, hk, n', rfl⟩ := hrel
      rcases hk with ⟨rfl, rfl⟩ | ⟨rfl, rfl⟩ | ⟨rfl, rfl⟩
      · go_wp2_with (go_at_call 122; (with_reducible refine (has_ev gl cl _ 2 [1, 2] rfl (by decide) (Pre.drewN HPL.out _) hcl _ true (by kernel_rfl)).mono ?_); rintro e w' ⟨rfl, ⟨nd, rfl⟩⟩)
        go_quiet (fail)
        go_wp2
        go_roundw
        case rel => exact ⟨1, rfl, .inr (.inl ⟨rfl, rfl⟩), _, rfl⟩
        case measure => simp [intOf]
      · go_wp2_with (go_at_call 122; (with_reducible refine (has_ev gl cl _ 2 [1, 2] rfl (by decide) (Pre.drewN HPL.out _) hcl _ true (by kernel_rfl)).mono ?_); rintro e w' ⟨rfl, ⟨nd, rfl⟩⟩)
        go_quiet (fail)
        go_wp2
        go_roundw
        case rel => exact ⟨2, rfl, .inr (.inr ⟨rfl, rfl⟩), _, rfl⟩
        case measure => simp [intOf]
      · go_wp2
        go_roundw
        case rel => exact ⟨rfl, 1, rfl, .inr (.inl rfl), _, rfl⟩
        case measure => simp [intOf]
   · go_wp2
     go_loopw [11, 12] (fun f y v => ∃ k : Int, y = .int .i64 k ∧ (k = 0 ∧ f = .bool true ∨ k = 1 ∧ f = .bool false ∨ k = 2 ∧ f = .bool false) ∧ ∃ n, v = wo.drewN n) (fun _ y _ => (3 - intOf y).toNat)
     case atStart => exact ⟨0, rfl, .inl ⟨rfl, rfl⟩, n, rfl⟩
     case round =>
      obtain ⟨k, rfl, hk, n', rfl⟩ := hrel
      rcases hk with ⟨rfl, rfl⟩ | ⟨rfl, rfl⟩ | ⟨rfl, rfl⟩
      · go_wp2_with (go_at_call 122; (with_reducible refine (has_ev gl cl _ 2 [1, 2] rfl (by decide) (Pre.drewN HPL.out _) hcl _ true (by kernel_rfl)).mono ?_); rintro e w' ⟨rfl, ⟨nd, rfl⟩⟩)
        go_quiet (fail)
        go_wp2
        go_roundw
        case rel => exact ⟨1, rfl, .inr (.inl ⟨rfl, rfl⟩), _, rfl⟩
        case measure => simp [intOf]
      · go_wp2_with (go_at_call 122; (with_reducible refine (has_ev gl cl _ 2 [1, 2] rfl (by decide) (Pre.drewN HPL.out _) hcl _ true (by kernel_rfl)).mono ?_); rintro e w' ⟨rfl, ⟨nd, rfl⟩⟩)
        go_quiet (fail)
        go_wp2
        go_roundw
        case rel => exact ⟨2, rfl, .inr (.inr ⟨rfl, rfl⟩), _, rfl⟩
        case measure => simp [intOf]
      · go_wp2
        go_roundw
        case rel => exact ⟨rfl, 2, rfl, .inr (.inr rfl), _, rfl⟩
        case measure => simp [intOf]
   · go_wp2
     go_ret2
     exact ⟨rfl, pw_below_drewN HB.out _⟩
end Go.Proofs.YtjlpjpjodhkpdaaGreatDoor
namespace Go.Proofs.YtjlpjpjodhkpdaaGreatDoor
open Go.RowKit Go.Proofs.YtjlpjpjodhkpdaaGreatDoor.Q Go.Proofs.YtjlpjpjodhkpdaaGreatDoorW.PrintWords
theorem has_nil (w : World) (a : Int) : Calls Tryz.prog 122 #[.slice none 0 0, .int .i64 a] w fun e w' => e = .returned (.bool false) ∧ Drawn0 w w' :=
 cartoucheref11_has.calls 20 none 0 [] a false w ⟨rfl, by decide, fun h => absurd h (by decide)⟩ (Nat.le_refl _) (by kernel_rfl)
theorem after_empty {w wo W1 : World} {m gs t : Nat} {cs : List Value} (hB : Below w.heap.size w wo) (hS : Pre wo gs t cs) (hg : ((wo.drewN m).alloc (.cells #[] 3)).grownBy W1 (Value.slice (some ⟨wo.heap.size, 0, none⟩) 0 0).ownBlock) : Below w.heap.size w W1 ∧ Pre W1 gs t cs := by
 have hz := hB.size
 refine ⟨(below_alloc (pw_below_drewN hB m) _).grown hg (by show w.heap.size ≤ ((wo.drewN m).alloc _).heap.size; simp; omega) (fun k e => by simp [Value.ownBlock] at e; omega), (Pre.alloc (Pre.drewN hS m) _).kept hg (fun e => ?_)⟩
 have := hS.lt
 simp [Value.ownBlock] at e
 omega
theorem after_own {w wo W1 : World} {v : Value} {n : Nat} {xs : List Value} {o : Obj} (hB : Below w.heap.size w wo) (hO : wo.ownsRow w.heap.size 3 1 v n xs) (hg : (wo.alloc o).grownBy W1 v.ownBlock) : Below w.heap.size w W1 :=
 (below_alloc hB _).grown hg (by have := hB.size; simp; omega) (row_low hO)
theorem starts_c (gs cs g1 g2 : Nat) (w : World) (hs : Pre w gs 109 (step1 g1 ++ step2 g2)) :
 Calls Tryz.prog 124 #[.slice (some ⟨gs, 0, none⟩) 2 cs] w fun e w' => (∃ g c, 2 ≤ c ∧ e = .returned (.slice (some ⟨g, 0, none⟩) 2 c) ∧ Pre w' g 3 [.int .i64 1, .int .i64 2]) ∧ Below w.heap.size w w' := by
 obtain ⟨i0, hi0, hz0, hz1, hz2⟩ := info_parts infoInt
 have HS := Lib.hid hs
 clear hs
 go_enter Tryz.func124, Tryz.ntmps124
 go_wp2
 go_loopw [3, 4] (fun x y wr => ∃ i : Int, y = .int .i64 i ∧ Hid ((i = 0 ∧ x = .slice none 0 0) ∨ (i = 1 ∧ ∃ g c, 1 ≤ c ∧ x = .slice (some ⟨g, 0, none⟩) 1 c ∧ Pre wr g 3 [.int .i64 1]) ∨ (i = 2 ∧ ∃ g c, 2 ≤ c ∧ x = .slice (some ⟨g, 0, none⟩) 2 c ∧ Pre wr g 3 [.int .i64 1, .int .i64 2])) ∧ Below w.heap.size w wr) (fun _ y _ => (3 - intOf y).toNat)
 case atStart => exact ⟨0, rfl, Lib.hid (.inl ⟨rfl, rfl⟩), Below.refl _ _⟩
 case round =>
  obtain ⟨i, rfl, HI, hB⟩ := hrel
  have hi := HI.out
  have HB := Lib.hid hB; have HSr := Lib.hid (HS.out.below hB)
  have hzr := hB.size
  clear HI hB
  obtain ⟨wo, rfl⟩ : ∃ wo : World, wo = wr := ⟨_, rfl⟩
  rcases hi with ⟨rfl, rfl⟩ | ⟨rfl, g, c, hc, rfl, hg⟩ | ⟨rfl, g, c, hc, rfl, hg⟩
  · have s0 := HSr.out.cell (i := 0) rfl
    go_wp2_with (go_at_call 122; (with_reducible refine (has_nil _ _).mono ?_); rintro e w' ⟨rfl, ⟨nd, rfl⟩⟩)
    go_loopw [6] (fun y v => y = .int .i64 0 ∧ ∃ n, v = wo.drewN n) (fun _ _ => 0)
    case atStart => exact ⟨rfl, _, rfl⟩
    case round =>
     obtain ⟨rfl, n, rfl⟩ := hrel
     have sA : ∀ m, ((wo.drewN m).alloc (.cells #[] 3)).cell? ⟨gs, 0, none⟩ = some (.int .i64 1) := fun m => (Pre.alloc (Pre.drewN HSr.out m) _).cell (i := 0) rfl
     go_wp2
     go_quiet (fail)
     go_wp2_with (at_builtin; (refine wpList_append_own_at _ rfl _ _ 22 rfl w.heap.size 3 i0 (.int .i64 0) 1 8 Tryz.underlying22 hi0 hz0 hz1 hz2 rfl (by decide) (.slice (some ⟨wo.heap.size, 0, none⟩) 0 0) 0 [] rfl ((empty_row (wo.drewN _) w.heap.size 3 1 hzr).alloc _) _ 1 1 [.int .i64 1] rfl rfl (cell_new_at _ _ _ _ (by simp)) (by simp [Value.oneCell']) (by unfold maxLen; omega) (by omega) (by simp; omega) ?_); intro v' w1 hown' hgrow _ hlies; obtain ⟨gl, cl, rfl⟩ := ownsRow_succ hown'; have hcl : 1 ≤ cl := (row_cap hown').1)
     go_roundw
     case rel => exact ⟨1, rfl, Lib.hid (.inr (.inl ⟨rfl, gl, cl, hcl, rfl, Pre.of_own (n := 1) hown'⟩)), (below_alloc (below_alloc (pw_below_drewN HB.out _) _) _).grown hgrow (by simp; omega) (fun k e => by simp [Value.ownBlock] at e; omega)⟩
     case measure => simp [intOf]
  · have s3 := HSr.out.cell (i := 3) rfl
    have HGp := Lib.hid hg
    have o0 := hg.cell (i := 0) rfl
    clear hg
    go_wp2_with (go_at_call 122; (with_reducible refine (has_ev g c _ 1 [1] rfl (by decide) HGp.out hc _ false (by kernel_rfl)).mono ?_); rintro e w' ⟨rfl, ⟨nd, rfl⟩⟩)
    go_loopw [6] (fun y v => ∃ k : Int, y = .int .i64 k ∧ (k = 0 ∨ k = 1) ∧ ∃ n, v = wo.drewN n) (fun y _ => (2 - intOf y).toNat)
    case atStart => exact ⟨0, rfl, .inl rfl, _, rfl⟩
    case round =>
     obtain ⟨k, rfl, hk, n, rfl⟩ := hrel
     rcases hk with rfl | rfl
     · go_wp2
       go_quiet (fail)
       go_wp2
       go_roundw
       case rel => exact ⟨1, rfl, .inr rfl, _, rfl⟩
       case measure => simp [intOf]
     · by_cases hc1 : c = 1
       · subst hc1
         go_wp2
         go_quiet (fail)
         go_wp2_with (first
          | (at_builtin; refine wpList_append_own_at _ rfl _ _ 22 rfl w.heap.size 3 i0 (.int .i64 0) 1 8 Tryz.underlying22 hi0 hz0 hz1 hz2 rfl (by decide) (.slice (some ⟨wo.heap.size, 0, none⟩) 0 0) 0 [] rfl (empty_row (wo.drewN _) w.heap.size 3 1 hzr) ⟨g, 0, none⟩ 1 _ [.int .i64 1] rfl rfl (Pre.news (Pre.alloc (Pre.drewN HGp.out _) _)) (by simp [Value.oneCell']) (by unfold maxLen; omega) (by omega) (by simp; omega) ?_; intro v' w1 hown' hgrow _ hlies; obtain ⟨gl, cl, rfl⟩ := ownsRow_succ hown'; have hcl : 1 ≤ cl := (row_cap hown').1; have HO1 := Lib.hid hown'; obtain ⟨hb1, hs1⟩ := after_empty HB.out HSr.out hgrow; have HB1 := Lib.hid hb1; have HS1 := Lib.hid hs1; clear hb1 hs1; have sB := HS1.out.cell (i := 3) rfl; have hz1' := HB1.out.size; clear hown' hgrow hlies)
          | (at_builtin; refine wpList_append_own_at _ rfl _ _ 22 rfl w.heap.size 3 i0 (.int .i64 0) 1 8 Tryz.underlying22 hi0 hz0 hz1 hz2 rfl (by decide) (.slice (some ⟨gl, 0, none⟩) 1 cl) 1 [.int .i64 1] rfl (HO1.out.alloc _) _ 1 1 [.int .i64 2] rfl rfl (cell_new_at _ _ _ _ (by simp)) (by simp [Value.oneCell']) (by unfold maxLen; omega) (by omega) (by simp; omega) ?_; intro v2 w2 hown2 hgrow2 _ hlies2; obtain ⟨gm, cm, rfl⟩ := ownsRow_succ hown2; have hcm : 2 ≤ cm := (row_cap hown2).1))
         go_roundw
         case rel => exact ⟨2, rfl, Lib.hid (.inr (.inr ⟨rfl, gm, cm, hcm, rfl, Pre.of_own (n := 2) hown2⟩)), after_own HB1.out HO1.out hgrow2⟩
         case measure => simp [intOf]
       · have hc2 : ¬ c = 1 := hc1
         go_wp2
         go_quiet (fail)
         go_wp2_with (first
          | (at_builtin; refine wpList_append_own_at _ rfl _ _ 22 rfl w.heap.size 3 i0 (.int .i64 0) 1 8 Tryz.underlying22 hi0 hz0 hz1 hz2 rfl (by decide) (.slice (some ⟨wo.heap.size, 0, none⟩) 0 0) 0 [] rfl (empty_row (wo.drewN _) w.heap.size 3 1 hzr) ⟨g, 0, none⟩ 1 _ [.int .i64 1] rfl rfl (Pre.news (Pre.alloc (Pre.drewN HGp.out _) _)) (by simp [Value.oneCell']) (by unfold maxLen; omega) (by omega) (by simp; omega) ?_; intro v' w1 hown' hgrow _ hlies; obtain ⟨gl, cl, rfl⟩ := ownsRow_succ hown'; have hcl : 1 ≤ cl := (row_cap hown').1; have HO1 := Lib.hid hown'; obtain ⟨hb1, hs1⟩ := after_empty HB.out HSr.out hgrow; have HB1 := Lib.hid hb1; have HS1 := Lib.hid hs1; clear hb1 hs1; have sB := HS1.out.cell (i := 3) rfl; have hz1' := HB1.out.size; clear hown' hgrow hlies)
          | (at_builtin; refine wpList_append_own_at _ rfl _ _ 22 rfl w.heap.size 3 i0 (.int .i64 0) 1 8 Tryz.underlying22 hi0 hz0 hz1 hz2 rfl (by decide) (.slice (some ⟨gl, 0, none⟩) 1 cl) 1 [.int .i64 1] rfl (HO1.out.alloc _) _ 1 1 [.int .i64 2] rfl rfl (cell_new_at _ _ _ _ (by simp)) (by simp [Value.oneCell']) (by unfold maxLen; omega) (by omega) (by simp; omega) ?_; intro v2 w2 hown2 hgrow2 _ hlies2; obtain ⟨gm, cm, rfl⟩ := ownsRow_succ hown2; have hcm : 2 ≤ cm := (row_cap hown2).1))
         go_roundw
         case rel => exact ⟨2, rfl, Lib.hid (.inr (.inr ⟨rfl, gm, cm, hcm, rfl, Pre.of_own (n := 2) hown2⟩)), after_own HB1.out HO1.out hgrow2⟩
         case measure => simp [intOf]
  · go_wp2
    go_ret
    exact ⟨⟨g, c, hc, rfl, hg⟩, HB.out⟩
end Go.Proofs.YtjlpjpjodhkpdaaGreatDoor
namespace Go.Proofs.YtjlpjpjodhkpdaaGreatDoor
open Go.RowKit Go.Proofs.YtjlpjpjodhkpdaaGreatDoor.Q Go.Proofs.YtjlpjpjodhkpdaaGreatDoorW.PrintWords
theorem infoInts : (Tryz.prog.info? 22).map (fun i => (i.zero, i.size, i.bytes)) = some (some (.slice none 0 0), 1, 24) := by kernel_rfl
abbrev sl1 (a c : Nat) : Value := .slice (some ⟨a, 0, none⟩) 1 c
def WaysAt (b : Nat) (t u : Int) (n : Int) (x : Value) (W : World) : Prop :=
 (n = 0 ∧ ∃ g c a0 c0, x = .slice (some ⟨g, 0, none⟩) 1 c ∧ 1 ≤ c0 ∧ W.ownsRow b 22 1 x 1 [sl1 a0 c0] ∧ Pre W a0 3 [.int .i64 t]) ∨
 (n = 1 ∧ ∃ g c a0 c0 a1 c1, x = .slice (some ⟨g, 0, none⟩) 2 c ∧ (1 ≤ c0 ∧ 1 ≤ c1) ∧ W.ownsRow b 22 1 x 2 [sl1 a0 c0, sl1 a1 c1] ∧ Pre W a0 3 [.int .i64 t] ∧ Pre W a1 3 [.int .i64 u]) ∨
 (n = 2 ∧ ∃ g c a0 c0 a1 c1 a2 c2, x = .slice (some ⟨g, 0, none⟩) 3 c ∧ (1 ≤ c0 ∧ 1 ≤ c1 ∧ 1 ≤ c2) ∧ W.ownsRow b 22 1 x 3 [sl1 a0 c0, sl1 a1 c1, sl1 a2 c2] ∧ Pre W a0 3 [.int .i64 t] ∧ Pre W a1 3 [.int .i64 u] ∧ Pre W a2 3 [.int .i64 t])
theorem Pre.kept_none {W W' : World} {g t : Nat} {cs : List Value} {o : Obj} (h : Pre W g t cs) (hg : (W.alloc o).grownBy W' (Value.slice none 0 0).ownBlock) : Pre W' g t cs := (h.alloc o).kept hg (by simp [Value.ownBlock])
theorem own_kept_none {W W' : World} {b e s n : Nat} {v : Value} {xs : List Value} {o : Obj} (h : W.ownsRow b e s v n xs) (hg : (W.alloc o).grownBy W' (Value.slice none 0 0).ownBlock) : W'.ownsRow b e s v n xs := (h.alloc o).kept hg (by cases v.ownBlock <;> simp [Value.ownBlock])
theorem below_none {w W W' : World} {o : Obj} (h : Below w.heap.size w W) (hg : (W.alloc o).grownBy W' (Value.slice none 0 0).ownBlock) : Below w.heap.size w W' := (below_alloc h o).grown hg (by have := h.size; simp; omega) (by simp [Value.ownBlock])
theorem Pre.kept_row {W W' : World} {g t b e s n : Nat} {cs xs : List Value} {v : Value} {o : Obj} (h : Pre W g t cs) (ho : W.ownsRow b e s v n xs) (hte : t ≠ e) (hg : (W.alloc o).grownBy W' v.ownBlock) : Pre W' g t cs := (h.alloc o).kept hg ((h.alloc o).ne_row (ho.alloc o) hte)
theorem below_row {w W W' : World} {e s n : Nat} {xs : List Value} {v : Value} {o : Obj} (h : Below w.heap.size w W) (ho : W.ownsRow w.heap.size e s v n xs) (hg : (W.alloc o).grownBy W' v.ownBlock) : Below w.heap.size w W' := (below_alloc h o).grown hg (by have := h.size; simp; omega) (row_low ho)
theorem ways_11 (gs cs g1 g2 : Nat) (w : World) (hs : Pre w gs 109 (step1 g1 ++ step2 g2)) :
 Calls Tryz.prog 125 #[.slice (some ⟨gs, 0, none⟩) 2 cs, .int .i64 1, .int .i64 1] w fun e w' => (∃ x, e = .returned x ∧ WaysAt w.heap.size 1 2 1 x w') ∧ Below w.heap.size w w' := by
 obtain ⟨i0, hi0, hz0, hz1, hz2⟩ := info_parts infoInt
 obtain ⟨j0, hj0, yz0, yz1, yz2⟩ := info_parts infoInts
 have HS := Lib.hid hs
 clear hs
 have hr0 := own_one (w.alloc (.cells #[.int .i64 1] 3)) w.heap.size 22 (sl1 w.heap.size 1) (by simp)
 have hp0 := (Pre.new w 3 [.int .i64 1]).alloc (.cells #[sl1 w.heap.size 1] 22)
 rw [World.size_alloc] at hr0
 have HR0 := Lib.hid hr0; have HP0 := Lib.hid hp0
 clear hr0 hp0
 go_enter Tryz.func125, Tryz.ntmps125
 go_wp2
 go_loopw [7, 8] (fun x y wr => ∃ n : Int, y = .int .i64 n ∧ Hid (WaysAt w.heap.size 1 2 n x wr ∧ n ≤ 1) ∧ Below w.heap.size w wr) (fun _ y _ => (2 - intOf y).toNat)
 case atStart => exact ⟨0, rfl, Lib.hid ⟨.inl ⟨rfl, _, _, _, _, rfl, Nat.le_refl _, HR0.out, HP0.out⟩, by decide⟩, below_alloc (below_alloc (Below.refl _ _) _) _⟩
 case round =>
  obtain ⟨n, rfl, HW, hB⟩ := hrel
  obtain ⟨hw, hnm⟩ := HW.out
  have HB := Lib.hid hB; have HSr := Lib.hid (HS.out.below hB)
  have hzr := hB.size
  clear HW hB HR0 HP0
  obtain ⟨wo, rfl⟩ : ∃ wo : World, wo = wr := ⟨_, rfl⟩
  rcases hw with ⟨rfl, g, c, a0, c0, rfl, hc0, ho, hp0⟩ | ⟨rfl, g, c, a0, c0, a1, c1, rfl, ⟨hc0, hc1⟩, ho, hp0, hp1⟩ | ⟨rfl, g, c, a0, c0, a1, c1, a2, c2, rfl, ⟨hc0, hc1, hc2⟩, ho, hp0, hp1, hp2⟩
  · have HO := Lib.hid ho; have HP0 := Lib.hid hp0
    have r0 := (Pre.of_own ho).cell (i := 0) rfl
    have q0 := HSr.out.cell (i := 0) rfl; have q1 := HSr.out.cell (i := 1) rfl; have q3 := HSr.out.cell (i := 3) rfl; have q4 := HSr.out.cell (i := 4) rfl
    clear ho hp0
    go_wp2
    go_loopw [9, 10] (fun x y v => ∃ i : Int, y = .int .i64 i ∧ Hid ((i = 0 ∧ x = .slice none 0 0 ∧ (∃ m, v = wo.drewN m)) ∨ (i = 1 ∧ x = .slice none 0 0 ∧ (∃ m, v = wo.drewN m)) ∨ (i = 2 ∧ (∃ gn cn, 1 ≤ cn ∧ x = sl1 gn cn ∧ Pre v gn 3 [.int .i64 2] ∧ Pre v gs 109 (step1 g1 ++ step2 g2) ∧ v.ownsRow w.heap.size 22 1 (.slice (some ⟨g, 0, none⟩) 1 c) 1 [sl1 a0 c0] ∧ Below w.heap.size w v ∧ Pre v a0 3 [.int .i64 1])))) (fun _ y _ => (3 - intOf y).toNat)
    case atStart => exact ⟨0, rfl, Lib.hid (.inl ⟨rfl, rfl, 0, rfl⟩)⟩
    case round =>
     obtain ⟨i, rfl, HI⟩ := hrel
     have hi := HI.out
     clear HI
     rcases hi with ⟨rfl, rfl, m, rfl⟩ | ⟨rfl, rfl, m, rfl⟩ | ⟨rfl, gn, cn, hcn, rfl, hgn, hss, hoo, hbb, hpp0⟩
     · go_wp2
       go_quiet ((go_at_call 122; (first | (with_reducible refine (has_ev a0 c0 _ 1 [1] rfl (by decide) (Pre.drewN (Pre.drewN HP0.out _) _) ‹_› _ false (by kernel_rfl)).mono ?_) | (with_reducible refine (has_ev a0 c0 _ 1 [1] rfl (by decide) (Pre.drewN HP0.out _) ‹_› _ false (by kernel_rfl)).mono ?_)); rintro e w' ⟨rfl, ⟨nd, rfl⟩⟩; (first | exact ⟨rfl, _, World.drewN_drewN _ _ _⟩ | exact ⟨rfl, _, Eq.trans (World.drewN_drewN _ _ _) (congrArg (World.drewN _) (Nat.add_assoc _ _ _))⟩)))
       go_wp2_with (first
        | (go_at_call 122; (with_reducible refine (has_nil _ _).mono ?_); rintro e w' ⟨rfl, ⟨nd, rfl⟩⟩))
       go_roundw
       case rel => exact ⟨1, rfl, Lib.hid (.inr (.inl ⟨rfl, rfl, _, rfl⟩))⟩
       case measure => simp [intOf]
     · go_wp2
       go_quiet ((go_at_call 122; (first | (with_reducible refine (has_ev a0 c0 _ 1 [1] rfl (by decide) (Pre.drewN (Pre.drewN HP0.out _) _) ‹_› _ true (by kernel_rfl)).mono ?_) | (with_reducible refine (has_ev a0 c0 _ 1 [1] rfl (by decide) (Pre.drewN HP0.out _) ‹_› _ true (by kernel_rfl)).mono ?_)); rintro e w' ⟨rfl, ⟨nd, rfl⟩⟩; (first | exact ⟨rfl, _, World.drewN_drewN _ _ _⟩ | exact ⟨rfl, _, Eq.trans (World.drewN_drewN _ _ _) (congrArg (World.drewN _) (Nat.add_assoc _ _ _))⟩)))
       have sA : ∀ m, (wo.drewN m).cell? ⟨gs, 3, none⟩ = some (.int .i64 2) := fun m => (Pre.drewN HSr.out m).cell (i := 3) rfl
       go_wp2_with (first
        | (go_at_call 122; (with_reducible refine (has_nil _ _).mono ?_); rintro e w' ⟨rfl, ⟨nd, rfl⟩⟩)
        | (at_builtin; refine wpList_append_own_at _ rfl _ _ 22 rfl w.heap.size 3 i0 (.int .i64 0) 1 8 Tryz.underlying22 hi0 hz0 hz1 hz2 rfl (by decide) (.slice none 0 0) 0 [] rfl (World.ownsRow_nil _ _ _ _) _ 1 1 [.int .i64 2] rfl rfl (cell_new_at _ _ _ _ (by simp)) (by simp [Value.oneCell']) (by unfold maxLen; omega) (by omega) (by simp; omega) ?_; intro v' w1 hown' hgrow _ hlies; obtain ⟨gn, cn, rfl⟩ := ownsRow_succ hown'; have hcn : 1 ≤ cn := (row_cap hown').1; have hs2 := Pre.kept_none (Pre.drewN HSr.out _) hgrow; have ho2 := own_kept_none (own_drewN HO.out _) hgrow; have hb2 := below_none (pw_below_drewN HB.out _) hgrow; have hq0 := Pre.kept_none (Pre.drewN HP0.out _) hgrow))
       go_roundw
       case rel => exact ⟨2, rfl, Lib.hid (.inr (.inr ⟨rfl, gn, cn, hcn, rfl, Pre.of_own (n := 1) hown', hs2, ho2, hb2, hq0⟩))⟩
       case measure => simp [intOf]
     · have HGn := Lib.hid hgn; have HOo := Lib.hid hoo; have HSs := Lib.hid hss; have HBb := Lib.hid hbb
       have HQ0 := Lib.hid hpp0
       clear hgn hss hoo hbb hpp0
       obtain ⟨wi, rfl⟩ : ∃ wi : World, wi = wr := ⟨_, rfl⟩
       have hzi := HBb.out.size
       go_wp2_with (at_builtin; refine wpList_append_own_at _ rfl _ _ 167 rfl w.heap.size 22 j0 (.slice none 0 0) 1 24 Tryz.underlying167 hj0 yz0 yz1 yz2 rfl (by decide) (.slice (some ⟨g, 0, none⟩) 1 c) 1 [sl1 a0 c0] rfl (HOo.out.alloc _) _ 1 1 [sl1 gn cn] rfl rfl (cell_new_at _ _ _ _ (by simp)) (by simp [Value.oneCell']) (by unfold maxLen; omega) (by omega) (by simp; omega) ?_; intro v' w1 hown' hgrow _ hlies; obtain ⟨gm, cm, rfl⟩ := ownsRow_succ hown'; have hg2 := HGn.out.kept_row HOo.out (by decide) hgrow; have hb2 := below_row HBb.out HOo.out hgrow; have hq0 := HQ0.out.kept_row HOo.out (by decide) hgrow)
       go_roundw
       case rel => exact ⟨1, rfl, Lib.hid ⟨.inr (.inl ⟨rfl, gm, cm, a0, c0, gn, cn, rfl, ⟨hc0, hcn⟩, hown', hq0, hg2⟩), by decide⟩, hb2⟩
       case measure => simp [intOf]
  · go_wp2
    go_ret
    exact ⟨⟨_, rfl, .inr (.inl ⟨rfl, g, c, a0, c0, a1, c1, rfl, ⟨hc0, hc1⟩, ho, hp0, hp1⟩)⟩, HB.out⟩
  · exact absurd hnm (by decide)
theorem ways_21 (gs cs g1 g2 : Nat) (w : World) (hs : Pre w gs 109 (step1 g1 ++ step2 g2)) :
 Calls Tryz.prog 125 #[.slice (some ⟨gs, 0, none⟩) 2 cs, .int .i64 2, .int .i64 1] w fun e w' => (∃ x, e = .returned x ∧ WaysAt w.heap.size 2 1 1 x w') ∧ Below w.heap.size w w' := by
 obtain ⟨i0, hi0, hz0, hz1, hz2⟩ := info_parts infoInt
 obtain ⟨j0, hj0, yz0, yz1, yz2⟩ := info_parts infoInts
 have HS := Lib.hid hs
 clear hs
 have hr0 := own_one (w.alloc (.cells #[.int .i64 2] 3)) w.heap.size 22 (sl1 w.heap.size 1) (by simp)
 have hp0 := (Pre.new w 3 [.int .i64 2]).alloc (.cells #[sl1 w.heap.size 1] 22)
 rw [World.size_alloc] at hr0
 have HR0 := Lib.hid hr0; have HP0 := Lib.hid hp0
 clear hr0 hp0
 go_enter Tryz.func125, Tryz.ntmps125
 go_wp2
 go_loopw [7, 8] (fun x y wr => ∃ n : Int, y = .int .i64 n ∧ Hid (WaysAt w.heap.size 2 1 n x wr ∧ n ≤ 1) ∧ Below w.heap.size w wr) (fun _ y _ => (2 - intOf y).toNat)
 case atStart => exact ⟨0, rfl, Lib.hid ⟨.inl ⟨rfl, _, _, _, _, rfl, Nat.le_refl _, HR0.out, HP0.out⟩, by decide⟩, below_alloc (below_alloc (Below.refl _ _) _) _⟩
 case round =>
  obtain ⟨n, rfl, HW, hB⟩ := hrel
  obtain ⟨hw, hnm⟩ := HW.out
  have HB := Lib.hid hB; have HSr := Lib.hid (HS.out.below hB)
  have hzr := hB.size
  clear HW hB HR0 HP0
  obtain ⟨wo, rfl⟩ : ∃ wo : World, wo = wr := ⟨_, rfl⟩
  rcases hw with ⟨rfl, g, c, a0, c0, rfl, hc0, ho, hp0⟩ | ⟨rfl, g, c, a0, c0, a1, c1, rfl, ⟨hc0, hc1⟩, ho, hp0, hp1⟩ | ⟨rfl, g, c, a0, c0, a1, c1, a2, c2, rfl, ⟨hc0, hc1, hc2⟩, ho, hp0, hp1, hp2⟩
  · have HO := Lib.hid ho; have HP0 := Lib.hid hp0
    have r0 := (Pre.of_own ho).cell (i := 0) rfl
    have q0 := HSr.out.cell (i := 0) rfl; have q1 := HSr.out.cell (i := 1) rfl; have q3 := HSr.out.cell (i := 3) rfl; have q4 := HSr.out.cell (i := 4) rfl
    clear ho hp0
    go_wp2
    go_loopw [9, 10] (fun x y v => ∃ i : Int, y = .int .i64 i ∧ Hid ((i = 0 ∧ x = .slice none 0 0 ∧ (∃ m, v = wo.drewN m)) ∨ (i = 1 ∧ (∃ gn cn, 1 ≤ cn ∧ x = sl1 gn cn ∧ Pre v gn 3 [.int .i64 1] ∧ Pre v gs 109 (step1 g1 ++ step2 g2) ∧ v.ownsRow w.heap.size 22 1 (.slice (some ⟨g, 0, none⟩) 1 c) 1 [sl1 a0 c0] ∧ Below w.heap.size w v ∧ Pre v a0 3 [.int .i64 2])) ∨ (i = 2 ∧ (∃ gn cn, 1 ≤ cn ∧ x = sl1 gn cn ∧ Pre v gn 3 [.int .i64 1] ∧ Pre v gs 109 (step1 g1 ++ step2 g2) ∧ v.ownsRow w.heap.size 22 1 (.slice (some ⟨g, 0, none⟩) 1 c) 1 [sl1 a0 c0] ∧ Below w.heap.size w v ∧ Pre v a0 3 [.int .i64 2])))) (fun _ y _ => (3 - intOf y).toNat)
    case atStart => exact ⟨0, rfl, Lib.hid (.inl ⟨rfl, rfl, 0, rfl⟩)⟩
    case round =>
     obtain ⟨i, rfl, HI⟩ := hrel
     have hi := HI.out
     clear HI
     rcases hi with ⟨rfl, rfl, m, rfl⟩ | ⟨rfl, gn, cn, hcn, rfl, hgn, hss, hoo, hbb, hpp0⟩ | ⟨rfl, gn, cn, hcn, rfl, hgn, hss, hoo, hbb, hpp0⟩
     · go_wp2
       go_quiet ((go_at_call 122; (first | (with_reducible refine (has_ev a0 c0 _ 1 [2] rfl (by decide) (Pre.drewN (Pre.drewN HP0.out _) _) ‹_› _ true (by kernel_rfl)).mono ?_) | (with_reducible refine (has_ev a0 c0 _ 1 [2] rfl (by decide) (Pre.drewN HP0.out _) ‹_› _ true (by kernel_rfl)).mono ?_)); rintro e w' ⟨rfl, ⟨nd, rfl⟩⟩; (first | exact ⟨rfl, _, World.drewN_drewN _ _ _⟩ | exact ⟨rfl, _, Eq.trans (World.drewN_drewN _ _ _) (congrArg (World.drewN _) (Nat.add_assoc _ _ _))⟩)))
       have sA : ∀ m, (wo.drewN m).cell? ⟨gs, 0, none⟩ = some (.int .i64 1) := fun m => (Pre.drewN HSr.out m).cell (i := 0) rfl
       go_wp2_with (first
        | (go_at_call 122; (with_reducible refine (has_nil _ _).mono ?_); rintro e w' ⟨rfl, ⟨nd, rfl⟩⟩)
        | (at_builtin; refine wpList_append_own_at _ rfl _ _ 22 rfl w.heap.size 3 i0 (.int .i64 0) 1 8 Tryz.underlying22 hi0 hz0 hz1 hz2 rfl (by decide) (.slice none 0 0) 0 [] rfl (World.ownsRow_nil _ _ _ _) _ 1 1 [.int .i64 1] rfl rfl (cell_new_at _ _ _ _ (by simp)) (by simp [Value.oneCell']) (by unfold maxLen; omega) (by omega) (by simp; omega) ?_; intro v' w1 hown' hgrow _ hlies; obtain ⟨gn, cn, rfl⟩ := ownsRow_succ hown'; have hcn : 1 ≤ cn := (row_cap hown').1; have hs2 := Pre.kept_none (Pre.drewN HSr.out _) hgrow; have ho2 := own_kept_none (own_drewN HO.out _) hgrow; have hb2 := below_none (pw_below_drewN HB.out _) hgrow; have hq0 := Pre.kept_none (Pre.drewN HP0.out _) hgrow))
       go_roundw
       case rel => exact ⟨1, rfl, Lib.hid (.inr (.inl ⟨rfl, gn, cn, hcn, rfl, Pre.of_own (n := 1) hown', hs2, ho2, hb2, hq0⟩))⟩
       case measure => simp [intOf]
     · have HPn := Lib.hid hpp0; have HGn := Lib.hid hgn; have HOo := Lib.hid hoo; have HSs := Lib.hid hss; have HBb := Lib.hid hbb
       have HQ0 := Lib.hid hpp0
       have r1 := (Pre.of_own hoo).cell (i := 0) rfl; have t0 := hss.cell (i := 0) rfl; have t1 := hss.cell (i := 1) rfl; have t3 := hss.cell (i := 3) rfl; have t4 := hss.cell (i := 4) rfl
       clear hgn hss hoo hbb hpp0
       obtain ⟨wi, rfl⟩ : ∃ wi : World, wi = wr := ⟨_, rfl⟩
       go_wp2
       go_quiet ((go_at_call 122; (first | (with_reducible refine (has_ev a0 c0 _ 1 [2] rfl (by decide) (Pre.drewN (Pre.drewN HPn.out _) _) ‹_› _ false (by kernel_rfl)).mono ?_) | (with_reducible refine (has_ev a0 c0 _ 1 [2] rfl (by decide) (Pre.drewN HPn.out _) ‹_› _ false (by kernel_rfl)).mono ?_)); rintro e w' ⟨rfl, ⟨nd, rfl⟩⟩; (first | exact ⟨rfl, _, World.drewN_drewN _ _ _⟩ | exact ⟨rfl, _, Eq.trans (World.drewN_drewN _ _ _) (congrArg (World.drewN _) (Nat.add_assoc _ _ _))⟩)))
       go_wp2_with (go_at_call 122; (with_reducible refine (has_ev gn cn _ 1 [1] rfl (by decide) (Pre.drewN HGn.out _) hcn _ false (by kernel_rfl)).mono ?_); rintro e w' ⟨rfl, ⟨nd, rfl⟩⟩)
       go_roundw
       case rel => exact ⟨2, rfl, Lib.hid (.inr (.inr ⟨rfl, gn, cn, hcn, rfl, Pre.drewN HGn.out _, Pre.drewN HSs.out _, own_drewN HOo.out _, pw_below_drewN HBb.out _, Pre.drewN HQ0.out _⟩))⟩
       case measure => simp [intOf]
     · have HGn := Lib.hid hgn; have HOo := Lib.hid hoo; have HSs := Lib.hid hss; have HBb := Lib.hid hbb
       have HQ0 := Lib.hid hpp0
       clear hgn hss hoo hbb hpp0
       obtain ⟨wi, rfl⟩ : ∃ wi : World, wi = wr := ⟨_, rfl⟩
       have hzi := HBb.out.size
       go_wp2_with (at_builtin; refine wpList_append_own_at _ rfl _ _ 167 rfl w.heap.size 22 j0 (.slice none 0 0) 1 24 Tryz.underlying167 hj0 yz0 yz1 yz2 rfl (by decide) (.slice (some ⟨g, 0, none⟩) 1 c) 1 [sl1 a0 c0] rfl (HOo.out.alloc _) _ 1 1 [sl1 gn cn] rfl rfl (cell_new_at _ _ _ _ (by simp)) (by simp [Value.oneCell']) (by unfold maxLen; omega) (by omega) (by simp; omega) ?_; intro v' w1 hown' hgrow _ hlies; obtain ⟨gm, cm, rfl⟩ := ownsRow_succ hown'; have hg2 := HGn.out.kept_row HOo.out (by decide) hgrow; have hb2 := below_row HBb.out HOo.out hgrow; have hq0 := HQ0.out.kept_row HOo.out (by decide) hgrow)
       go_roundw
       case rel => exact ⟨1, rfl, Lib.hid ⟨.inr (.inl ⟨rfl, gm, cm, a0, c0, gn, cn, rfl, ⟨hc0, hcn⟩, hown', hq0, hg2⟩), by decide⟩, hb2⟩
       case measure => simp [intOf]
  · go_wp2
    go_ret
    exact ⟨⟨_, rfl, .inr (.inl ⟨rfl, g, c, a0, c0, a1, c1, rfl, ⟨hc0, hc1⟩, ho, hp0, hp1⟩)⟩, HB.out⟩
  · exact absurd hnm (by decide)
theorem ways_12 (gs cs g1 g2 : Nat) (w : World) (hs : Pre w gs 109 (step1 g1 ++ step2 g2)) :
 Calls Tryz.prog 125 #[.slice (some ⟨gs, 0, none⟩) 2 cs, .int .i64 1, .int .i64 2] w fun e w' => (∃ x, e = .returned x ∧ WaysAt w.heap.size 1 2 2 x w') ∧ Below w.heap.size w w' := by
 obtain ⟨i0, hi0, hz0, hz1, hz2⟩ := info_parts infoInt
 obtain ⟨j0, hj0, yz0, yz1, yz2⟩ := info_parts infoInts
 have HS := Lib.hid hs
 clear hs
 have hr0 := own_one (w.alloc (.cells #[.int .i64 1] 3)) w.heap.size 22 (sl1 w.heap.size 1) (by simp)
 have hp0 := (Pre.new w 3 [.int .i64 1]).alloc (.cells #[sl1 w.heap.size 1] 22)
 rw [World.size_alloc] at hr0
 have HR0 := Lib.hid hr0; have HP0 := Lib.hid hp0
 clear hr0 hp0
 go_enter Tryz.func125, Tryz.ntmps125
 go_wp2
 go_loopw [7, 8] (fun x y wr => ∃ n : Int, y = .int .i64 n ∧ Hid (WaysAt w.heap.size 1 2 n x wr ∧ n ≤ 2) ∧ Below w.heap.size w wr) (fun _ y _ => (3 - intOf y).toNat)
 case atStart => exact ⟨0, rfl, Lib.hid ⟨.inl ⟨rfl, _, _, _, _, rfl, Nat.le_refl _, HR0.out, HP0.out⟩, by decide⟩, below_alloc (below_alloc (Below.refl _ _) _) _⟩
 case round =>
  obtain ⟨n, rfl, HW, hB⟩ := hrel
  obtain ⟨hw, hnm⟩ := HW.out
  have HB := Lib.hid hB; have HSr := Lib.hid (HS.out.below hB)
  have hzr := hB.size
  clear HW hB HR0 HP0
  obtain ⟨wo, rfl⟩ : ∃ wo : World, wo = wr := ⟨_, rfl⟩
  rcases hw with ⟨rfl, g, c, a0, c0, rfl, hc0, ho, hp0⟩ | ⟨rfl, g, c, a0, c0, a1, c1, rfl, ⟨hc0, hc1⟩, ho, hp0, hp1⟩ | ⟨rfl, g, c, a0, c0, a1, c1, a2, c2, rfl, ⟨hc0, hc1, hc2⟩, ho, hp0, hp1, hp2⟩
  · have HO := Lib.hid ho; have HP0 := Lib.hid hp0
    have r0 := (Pre.of_own ho).cell (i := 0) rfl
    have q0 := HSr.out.cell (i := 0) rfl; have q1 := HSr.out.cell (i := 1) rfl; have q3 := HSr.out.cell (i := 3) rfl; have q4 := HSr.out.cell (i := 4) rfl
    clear ho hp0
    go_wp2
    go_loopw [9, 10] (fun x y v => ∃ i : Int, y = .int .i64 i ∧ Hid ((i = 0 ∧ x = .slice none 0 0 ∧ (∃ m, v = wo.drewN m)) ∨ (i = 1 ∧ x = .slice none 0 0 ∧ (∃ m, v = wo.drewN m)) ∨ (i = 2 ∧ (∃ gn cn, 1 ≤ cn ∧ x = sl1 gn cn ∧ Pre v gn 3 [.int .i64 2] ∧ Pre v gs 109 (step1 g1 ++ step2 g2) ∧ v.ownsRow w.heap.size 22 1 (.slice (some ⟨g, 0, none⟩) 1 c) 1 [sl1 a0 c0] ∧ Below w.heap.size w v ∧ Pre v a0 3 [.int .i64 1])))) (fun _ y _ => (3 - intOf y).toNat)
    case atStart => exact ⟨0, rfl, Lib.hid (.inl ⟨rfl, rfl, 0, rfl⟩)⟩
    case round =>
     obtain ⟨i, rfl, HI⟩ := hrel
     have hi := HI.out
     clear HI
     rcases hi with ⟨rfl, rfl, m, rfl⟩ | ⟨rfl, rfl, m, rfl⟩ | ⟨rfl, gn, cn, hcn, rfl, hgn, hss, hoo, hbb, hpp0⟩
     · go_wp2
       go_quiet ((go_at_call 122; (first | (with_reducible refine (has_ev a0 c0 _ 1 [1] rfl (by decide) (Pre.drewN (Pre.drewN HP0.out _) _) ‹_› _ false (by kernel_rfl)).mono ?_) | (with_reducible refine (has_ev a0 c0 _ 1 [1] rfl (by decide) (Pre.drewN HP0.out _) ‹_› _ false (by kernel_rfl)).mono ?_)); rintro e w' ⟨rfl, ⟨nd, rfl⟩⟩; (first | exact ⟨rfl, _, World.drewN_drewN _ _ _⟩ | exact ⟨rfl, _, Eq.trans (World.drewN_drewN _ _ _) (congrArg (World.drewN _) (Nat.add_assoc _ _ _))⟩)))
       go_wp2_with (first
        | (go_at_call 122; (with_reducible refine (has_nil _ _).mono ?_); rintro e w' ⟨rfl, ⟨nd, rfl⟩⟩))
       go_roundw
       case rel => exact ⟨1, rfl, Lib.hid (.inr (.inl ⟨rfl, rfl, _, rfl⟩))⟩
       case measure => simp [intOf]
     · go_wp2
       go_quiet ((go_at_call 122; (first | (with_reducible refine (has_ev a0 c0 _ 1 [1] rfl (by decide) (Pre.drewN (Pre.drewN HP0.out _) _) ‹_› _ true (by kernel_rfl)).mono ?_) | (with_reducible refine (has_ev a0 c0 _ 1 [1] rfl (by decide) (Pre.drewN HP0.out _) ‹_› _ true (by kernel_rfl)).mono ?_)); rintro e w' ⟨rfl, ⟨nd, rfl⟩⟩; (first | exact ⟨rfl, _, World.drewN_drewN _ _ _⟩ | exact ⟨rfl, _, Eq.trans (World.drewN_drewN _ _ _) (congrArg (World.drewN _) (Nat.add_assoc _ _ _))⟩)))
       have sA : ∀ m, (wo.drewN m).cell? ⟨gs, 3, none⟩ = some (.int .i64 2) := fun m => (Pre.drewN HSr.out m).cell (i := 3) rfl
       go_wp2_with (first
        | (go_at_call 122; (with_reducible refine (has_nil _ _).mono ?_); rintro e w' ⟨rfl, ⟨nd, rfl⟩⟩)
        | (at_builtin; refine wpList_append_own_at _ rfl _ _ 22 rfl w.heap.size 3 i0 (.int .i64 0) 1 8 Tryz.underlying22 hi0 hz0 hz1 hz2 rfl (by decide) (.slice none 0 0) 0 [] rfl (World.ownsRow_nil _ _ _ _) _ 1 1 [.int .i64 2] rfl rfl (cell_new_at _ _ _ _ (by simp)) (by simp [Value.oneCell']) (by unfold maxLen; omega) (by omega) (by simp; omega) ?_; intro v' w1 hown' hgrow _ hlies; obtain ⟨gn, cn, rfl⟩ := ownsRow_succ hown'; have hcn : 1 ≤ cn := (row_cap hown').1; have hs2 := Pre.kept_none (Pre.drewN HSr.out _) hgrow; have ho2 := own_kept_none (own_drewN HO.out _) hgrow; have hb2 := below_none (pw_below_drewN HB.out _) hgrow; have hq0 := Pre.kept_none (Pre.drewN HP0.out _) hgrow))
       go_roundw
       case rel => exact ⟨2, rfl, Lib.hid (.inr (.inr ⟨rfl, gn, cn, hcn, rfl, Pre.of_own (n := 1) hown', hs2, ho2, hb2, hq0⟩))⟩
       case measure => simp [intOf]
     · have HGn := Lib.hid hgn; have HOo := Lib.hid hoo; have HSs := Lib.hid hss; have HBb := Lib.hid hbb
       have HQ0 := Lib.hid hpp0
       clear hgn hss hoo hbb hpp0
       obtain ⟨wi, rfl⟩ : ∃ wi : World, wi = wr := ⟨_, rfl⟩
       have hzi := HBb.out.size
       go_wp2_with (at_builtin; refine wpList_append_own_at _ rfl _ _ 167 rfl w.heap.size 22 j0 (.slice none 0 0) 1 24 Tryz.underlying167 hj0 yz0 yz1 yz2 rfl (by decide) (.slice (some ⟨g, 0, none⟩) 1 c) 1 [sl1 a0 c0] rfl (HOo.out.alloc _) _ 1 1 [sl1 gn cn] rfl rfl (cell_new_at _ _ _ _ (by simp)) (by simp [Value.oneCell']) (by unfold maxLen; omega) (by omega) (by simp; omega) ?_; intro v' w1 hown' hgrow _ hlies; obtain ⟨gm, cm, rfl⟩ := ownsRow_succ hown'; have hg2 := HGn.out.kept_row HOo.out (by decide) hgrow; have hb2 := below_row HBb.out HOo.out hgrow; have hq0 := HQ0.out.kept_row HOo.out (by decide) hgrow)
       go_roundw
       case rel => exact ⟨1, rfl, Lib.hid ⟨.inr (.inl ⟨rfl, gm, cm, a0, c0, gn, cn, rfl, ⟨hc0, hcn⟩, hown', hq0, hg2⟩), by decide⟩, hb2⟩
       case measure => simp [intOf]
  · have HO := Lib.hid ho; have HP0 := Lib.hid hp0; have HP1 := Lib.hid hp1
    have r0 := (Pre.of_own ho).cell (i := 1) rfl
    have q0 := HSr.out.cell (i := 0) rfl; have q1 := HSr.out.cell (i := 1) rfl; have q3 := HSr.out.cell (i := 3) rfl; have q4 := HSr.out.cell (i := 4) rfl
    clear ho hp0 hp1
    go_wp2
    go_loopw [9, 10] (fun x y v => ∃ i : Int, y = .int .i64 i ∧ Hid ((i = 0 ∧ x = .slice none 0 0 ∧ (∃ m, v = wo.drewN m)) ∨ (i = 1 ∧ (∃ gn cn, 1 ≤ cn ∧ x = sl1 gn cn ∧ Pre v gn 3 [.int .i64 1] ∧ Pre v gs 109 (step1 g1 ++ step2 g2) ∧ v.ownsRow w.heap.size 22 1 (.slice (some ⟨g, 0, none⟩) 2 c) 2 [sl1 a0 c0, sl1 a1 c1] ∧ Below w.heap.size w v ∧ Pre v a0 3 [.int .i64 1] ∧ Pre v a1 3 [.int .i64 2])) ∨ (i = 2 ∧ (∃ gn cn, 1 ≤ cn ∧ x = sl1 gn cn ∧ Pre v gn 3 [.int .i64 1] ∧ Pre v gs 109 (step1 g1 ++ step2 g2) ∧ v.ownsRow w.heap.size 22 1 (.slice (some ⟨g, 0, none⟩) 2 c) 2 [sl1 a0 c0, sl1 a1 c1] ∧ Below w.heap.size w v ∧ Pre v a0 3 [.int .i64 1] ∧ Pre v a1 3 [.int .i64 2])))) (fun _ y _ => (3 - intOf y).toNat)
    case atStart => exact ⟨0, rfl, Lib.hid (.inl ⟨rfl, rfl, 0, rfl⟩)⟩
    case round =>
     obtain ⟨i, rfl, HI⟩ := hrel
     have hi := HI.out
     clear HI
     rcases hi with ⟨rfl, rfl, m, rfl⟩ | ⟨rfl, gn, cn, hcn, rfl, hgn, hss, hoo, hbb, hpp0, hpp1⟩ | ⟨rfl, gn, cn, hcn, rfl, hgn, hss, hoo, hbb, hpp0, hpp1⟩
     · go_wp2
       go_quiet ((go_at_call 122; (first | (with_reducible refine (has_ev a1 c1 _ 1 [2] rfl (by decide) (Pre.drewN (Pre.drewN HP1.out _) _) ‹_› _ true (by kernel_rfl)).mono ?_) | (with_reducible refine (has_ev a1 c1 _ 1 [2] rfl (by decide) (Pre.drewN HP1.out _) ‹_› _ true (by kernel_rfl)).mono ?_)); rintro e w' ⟨rfl, ⟨nd, rfl⟩⟩; (first | exact ⟨rfl, _, World.drewN_drewN _ _ _⟩ | exact ⟨rfl, _, Eq.trans (World.drewN_drewN _ _ _) (congrArg (World.drewN _) (Nat.add_assoc _ _ _))⟩)))
       have sA : ∀ m, (wo.drewN m).cell? ⟨gs, 0, none⟩ = some (.int .i64 1) := fun m => (Pre.drewN HSr.out m).cell (i := 0) rfl
       go_wp2_with (first
        | (go_at_call 122; (with_reducible refine (has_nil _ _).mono ?_); rintro e w' ⟨rfl, ⟨nd, rfl⟩⟩)
        | (at_builtin; refine wpList_append_own_at _ rfl _ _ 22 rfl w.heap.size 3 i0 (.int .i64 0) 1 8 Tryz.underlying22 hi0 hz0 hz1 hz2 rfl (by decide) (.slice none 0 0) 0 [] rfl (World.ownsRow_nil _ _ _ _) _ 1 1 [.int .i64 1] rfl rfl (cell_new_at _ _ _ _ (by simp)) (by simp [Value.oneCell']) (by unfold maxLen; omega) (by omega) (by simp; omega) ?_; intro v' w1 hown' hgrow _ hlies; obtain ⟨gn, cn, rfl⟩ := ownsRow_succ hown'; have hcn : 1 ≤ cn := (row_cap hown').1; have hs2 := Pre.kept_none (Pre.drewN HSr.out _) hgrow; have ho2 := own_kept_none (own_drewN HO.out _) hgrow; have hb2 := below_none (pw_below_drewN HB.out _) hgrow; have hq0 := Pre.kept_none (Pre.drewN HP0.out _) hgrow; have hq1 := Pre.kept_none (Pre.drewN HP1.out _) hgrow))
       go_roundw
       case rel => exact ⟨1, rfl, Lib.hid (.inr (.inl ⟨rfl, gn, cn, hcn, rfl, Pre.of_own (n := 1) hown', hs2, ho2, hb2, hq0, hq1⟩))⟩
       case measure => simp [intOf]
     · have HPn := Lib.hid hpp1; have HGn := Lib.hid hgn; have HOo := Lib.hid hoo; have HSs := Lib.hid hss; have HBb := Lib.hid hbb
       have HQ0 := Lib.hid hpp0
       have HQ1 := Lib.hid hpp1
       have r1 := (Pre.of_own hoo).cell (i := 1) rfl; have t0 := hss.cell (i := 0) rfl; have t1 := hss.cell (i := 1) rfl; have t3 := hss.cell (i := 3) rfl; have t4 := hss.cell (i := 4) rfl
       clear hgn hss hoo hbb hpp0 hpp1
       obtain ⟨wi, rfl⟩ : ∃ wi : World, wi = wr := ⟨_, rfl⟩
       go_wp2
       go_quiet ((go_at_call 122; (first | (with_reducible refine (has_ev a1 c1 _ 1 [2] rfl (by decide) (Pre.drewN (Pre.drewN HPn.out _) _) ‹_› _ false (by kernel_rfl)).mono ?_) | (with_reducible refine (has_ev a1 c1 _ 1 [2] rfl (by decide) (Pre.drewN HPn.out _) ‹_› _ false (by kernel_rfl)).mono ?_)); rintro e w' ⟨rfl, ⟨nd, rfl⟩⟩; (first | exact ⟨rfl, _, World.drewN_drewN _ _ _⟩ | exact ⟨rfl, _, Eq.trans (World.drewN_drewN _ _ _) (congrArg (World.drewN _) (Nat.add_assoc _ _ _))⟩)))
       go_wp2_with (go_at_call 122; (with_reducible refine (has_ev gn cn _ 1 [1] rfl (by decide) (Pre.drewN HGn.out _) hcn _ false (by kernel_rfl)).mono ?_); rintro e w' ⟨rfl, ⟨nd, rfl⟩⟩)
       go_roundw
       case rel => exact ⟨2, rfl, Lib.hid (.inr (.inr ⟨rfl, gn, cn, hcn, rfl, Pre.drewN HGn.out _, Pre.drewN HSs.out _, own_drewN HOo.out _, pw_below_drewN HBb.out _, Pre.drewN HQ0.out _, Pre.drewN HQ1.out _⟩))⟩
       case measure => simp [intOf]
     · have HGn := Lib.hid hgn; have HOo := Lib.hid hoo; have HSs := Lib.hid hss; have HBb := Lib.hid hbb
       have HQ0 := Lib.hid hpp0
       have HQ1 := Lib.hid hpp1
       clear hgn hss hoo hbb hpp0 hpp1
       obtain ⟨wi, rfl⟩ : ∃ wi : World, wi = wr := ⟨_, rfl⟩
       have hzi := HBb.out.size
       go_wp2_with (at_builtin; refine wpList_append_own_at _ rfl _ _ 167 rfl w.heap.size 22 j0 (.slice none 0 0) 1 24 Tryz.underlying167 hj0 yz0 yz1 yz2 rfl (by decide) (.slice (some ⟨g, 0, none⟩) 2 c) 2 [sl1 a0 c0, sl1 a1 c1] rfl (HOo.out.alloc _) _ 1 1 [sl1 gn cn] rfl rfl (cell_new_at _ _ _ _ (by simp)) (by simp [Value.oneCell']) (by unfold maxLen; omega) (by omega) (by simp; omega) ?_; intro v' w1 hown' hgrow _ hlies; obtain ⟨gm, cm, rfl⟩ := ownsRow_succ hown'; have hg2 := HGn.out.kept_row HOo.out (by decide) hgrow; have hb2 := below_row HBb.out HOo.out hgrow; have hq0 := HQ0.out.kept_row HOo.out (by decide) hgrow; have hq1 := HQ1.out.kept_row HOo.out (by decide) hgrow)
       go_roundw
       case rel => exact ⟨2, rfl, Lib.hid ⟨.inr (.inr ⟨rfl, gm, cm, a0, c0, a1, c1, gn, cn, rfl, ⟨hc0, hc1, hcn⟩, hown', hq0, hq1, hg2⟩), by decide⟩, hb2⟩
       case measure => simp [intOf]
  · go_wp2
    go_ret
    exact ⟨⟨_, rfl, .inr (.inr ⟨rfl, g, c, a0, c0, a1, c1, a2, c2, rfl, ⟨hc0, hc1, hc2⟩, ho, hp0, hp1, hp2⟩)⟩, HB.out⟩
end Go.Proofs.YtjlpjpjodhkpdaaGreatDoor
