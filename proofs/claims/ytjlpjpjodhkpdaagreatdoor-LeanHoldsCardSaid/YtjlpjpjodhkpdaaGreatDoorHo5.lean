/- The law LeanHolds, walked. -/
import Derived.Test.YtjlpjpjodhkpdaaGreatDoorPx
import Derived.Test.YtjlpjpjodhkpdaaGreatDoorHo4
set_option linter.unusedVariables false
set_option linter.unusedSimpArgs false
namespace Go.Proofs.YtjlpjpjodhkpdaaGreatDoor
open Go.RowKit Go.Proofs.YtjlpjpjodhkpdaaGreatDoor.Q Go.Proofs.YtjlpjpjodhkpdaaGreatDoorW.PrintWords

/-- What lies while the history is looked through: the edge's box. -/
def HBx (w : World) (e0 e1 e2 e3 e4 : Int) (U : World) : Prop := Below w.heap.size w U ∧ Pre U w.heap.size 32 [.int .i64 e0, .int .i64 e1, .int .i64 e2, .int .i64 e3, .int .i64 e4]
theorem HBx.drewN {w U : World} {e0 e1 e2 e3 e4 : Int} (h : HBx w e0 e1 e2 e3 e4 U) (n : Nat) : HBx w e0 e1 e2 e3 e4 (U.drewN n) := ⟨pw_below_drewN h.1 n, h.2.drewN n⟩
/-- What lies while proofs are made. -/
def LH (w : World) (h : List Evn) (e0 e1 e2 e3 e4 : Int) (R : List Prf) (v : Value) (U : World) : Prop :=
  OwnP h R ∧ (∃ cs, PX w R cs ∧ U.ownsRow w.heap.size 55 6 v R.length cs) ∧ HBx w e0 e1 e2 e3 e4 U
theorem LH.C {w U : World} {h : List Evn} {e0 e1 e2 e3 e4 : Int} {R : List Prf} {v : Value} (hh : LH w h e0 e1 e2 e3 e4 R v U) (hl : R.length ≤ 120) : ∃ A c, v = .slice A R.length c ∧ Kd.C k55 U A R.length R := by
  obtain ⟨_, ⟨cs, h1, h2⟩, h3, _⟩ := hh
  obtain ⟨A, c, rfl⟩ := own_slice h2
  refine ⟨A, c, rfl, ?_⟩
  by_cases h0 : R.length = 0
  · have e := List.eq_nil_of_length_eq_zero h0
    rw [e]
    exact ⟨rfl, by simp, fun h => absurd h (by simp)⟩
  · obtain ⟨n, hn⟩ : ∃ n, R.length = n + 1 := ⟨R.length - 1, by omega⟩
    rw [hn] at h2
    obtain ⟨g, c', e⟩ := ownsRow_succ h2
    injection e with e1 _ e3
    subst e1
    subst e3
    exact h1.C (fun j u hu => (Pre.of_own h2).cell hu) h3 (by omega)
theorem noclash_step {h : List Evn} {i k : Nat} (H : ∀ j, j < k → clash h i j = false) (hk : clash h i k = false) : ∀ j, j < k + 1 → clash h i j = false := fun j hj => by
  by_cases e : j = k
  · rw [e]; exact hk
  · exact H j (by omega)
theorem noclash_next {h : List Evn} {i : Nat} (H : NoClash h i) (hk : ∀ j, j < i → clash h i j = false) : NoClash h (i + 1) := fun j hj k hkj => by
  by_cases e : j = i
  · subst e; exact hk k hkj
  · exact H j (by omega) k hkj
theorem own_app {h : List Evn} {R : List Prf} (H : OwnP h R) (i : Nat) (hi : i < h.length) : OwnP h (R ++ [⟨(i : Int), rd_T53 h i, []⟩]) := fun p hp => by
  rcases List.mem_append.1 hp with hm | hm
  · exact H p hm
  · rw [List.mem_singleton] at hm
    exact ⟨i, hi, hm⟩
set_option maxHeartbeats 16000000 in
set_option maxRecDepth 100000 in
theorem holds_walk (AH : Option Addr) (cH : Nat) (l : List Evn) (AP : Option Addr) (cP : Nat) (pl : List Int) (e0 e1 e2 e3 e4 : Int) (w : World) (hT : Tabs w) (hr : Kd.C k53 w AH l.length l) (hp : Kd.C (Kd.int .i64) w AP pl.length pl) :
    Calls Tryz.prog 7 #[.slice AH l.length cH, .slice AP pl.length cP, .agg #[.int .i64 e0, .int .i64 e1, .int .i64 e2, .int .i64 e3, .int .i64 e4]] w fun e w' => e = .returned (.bool true) ∧ Below w.heap.size w w' := by
  obtain ⟨i0, hi0, hz0, hz1, hz2⟩ := info_parts infoProof
  have HS := Lib.hid (fun u (hb : Below w.heap.size w u) => shown_any u (hT.below hb hT.size))
  have HB0 := Lib.hid (below_alloc (Below.refl w.heap.size w) (.cells #[.int .i64 e0, .int .i64 e1, .int .i64 e2, .int .i64 e3, .int .i64 e4] 32))
  have HP0 := Lib.hid (Pre.new w 32 [.int .i64 e0, .int .i64 e1, .int .i64 e2, .int .i64 e3, .int .i64 e4])
  have HR := Lib.hid hr; have HL := Lib.hid hp
  clear hT hr hp
  by_cases g1 : (60 : Int) < (l.length : Int)
  · go_enter Tryz.func7, Tryz.ntmps7
    go_wp2_with (go_at_call 9; refine (HS.out _ HB0.out).mono ?_; rintro e w2 ⟨rfl, hb⟩; have HB1 := Lib.hid (below_step HB0.out hb); clear hb)
    go_ret
    exact ⟨rfl, HB1.out⟩
  · by_cases g2 : (60 : Int) < (pl.length : Int)
    · go_enter Tryz.func7, Tryz.ntmps7
      go_wp2_with (go_at_call 9; refine (HS.out _ HB0.out).mono ?_; rintro e w2 ⟨rfl, hb⟩; have HB1 := Lib.hid (below_step HB0.out hb); clear hb)
      go_ret
      exact ⟨rfl, HB1.out⟩
    · have hl60 : l.length ≤ 60 := by omega
      have hm60 : pl.length ≤ 60 := by omega
      go_enter Tryz.func7, Tryz.ntmps7
      go_wp2_with (go_at_call 9; refine (HS.out _ HB0.out).mono ?_; rintro e w2 ⟨rfl, hb⟩; have HX0 := Lib.hid (show HBx w e0 e1 e2 e3 e4 w2 from ⟨below_step HB0.out hb, HP0.out.below hb⟩); clear hb)
      clear HS HB0 HP0
      go_loopw [8] (fun x U => ∃ i : Nat, i ≤ l.length ∧ x = .int .i64 (i : Int) ∧ Hid (NoClash l i) ∧ Hid (HBx w e0 e1 e2 e3 e4 U)) (fun x _ => l.length + 1 - (intOf x).toNat)
      case atStart => exact ⟨0, by omega, rfl, Lib.hid (fun i hi => absurd hi (by omega)), HX0⟩
      case round =>
        clear HX0
        obtain ⟨i, hi, rfl, HC, HX0⟩ := hrel
        by_cases hc : i < l.length
        · have hlt : decide ((i : Int) < (l.length : Int)) = true := by simp; omega
          have hlt2 : decide (i < l.length) = true := by simp; omega
          go_wp2
          go_loopw [9] (fun x U => ∃ k : Nat, k ≤ i ∧ x = .int .i64 (k : Int) ∧ Hid (∀ j, j < k → clash l i j = false) ∧ Hid (HBx w e0 e1 e2 e3 e4 U)) (fun x _ => i + 1 - (intOf x).toNat)
          case atStart => exact ⟨0, by omega, rfl, Lib.hid (fun j hj => absurd hj (by omega)), HX0⟩
          case round =>
            clear HX0
            obtain ⟨k, hk, rfl, HA, HX⟩ := hrel
            obtain ⟨ad, hA0, y0, y1, y2, y3⟩ := at_T53 (Kd.C_below HR.out HX.out.1) (i : Int) (by omega) (by omega)
            simp only [Int.toNat_natCast] at y0 y1 y2 y3
            by_cases hki : k < i
            · have hkt : decide ((k : Int) < (i : Int)) = true := by simp; omega
              have hkt2 : decide (k < i) = true := by simp; omega
              have hkl : k < l.length := by omega
              obtain ⟨ad', hA1, z0, z1, z2, z3⟩ := at_T53 (Kd.C_below HR.out HX.out.1) (k : Int) (by omega) (by omega)
              simp only [Int.toNat_natCast] at z0 z1 z2 z3
              subst hA0
              obtain rfl : ad = ad' := Option.some.inj hA1
              have HQ := Lib.hid (show clash l i k = ((decide (4 ≤ (rd_T53 l (i : Int)).f0) && (decide (4 ≤ (rd_T53 l (k : Int)).f0) && decide ((rd_T53 l (i : Int)).f1 = (rd_T53 l (k : Int)).f1))) || (decide ((rd_T53 l (i : Int)).f0 = 3) && (decide ((rd_T53 l (k : Int)).f0 = 3) && decide ((rd_T53 l (i : Int)).f3 = (rd_T53 l (k : Int)).f3)))) from rfl)
              generalize rd_T53 l (i : Int) = x at *
              generalize rd_T53 l (k : Int) = y at *
              obtain ⟨x0, x1, x2, x3⟩ := x
              obtain ⟨y0', y1', y2', y3'⟩ := y
              dsimp only at *
              clear hA1
              by_cases a1 : 4 ≤ x0
              · have a2 : ¬ x0 = 3 := by omega
                have a3 : (x0 == 3) = false := beq_eq_false_iff_ne.mpr a2
                by_cases b1 : 4 ≤ y0'
                · by_cases c1 : x1 = y1'
                  · subst c1
                    go_wp2
                    go_quiet (fail)
                    go_wp2
                    go_quiet (fail)
                    go_wp2
                    go_ret
                    exact ⟨rfl, by first | exact HX.out.1 | exact pw_below_drewN HX.out.1 _ | exact pw_below_drewN (pw_below_drewN HX.out.1 _) _⟩
                  · have c2 : (x1 == y1') = false := beq_eq_false_iff_ne.mpr c1
                    have HN := Lib.hid (noclash_step HA.out (HQ.out.trans (by simp [a2, c1])))
                    go_wp2
                    go_quiet (fail)
                    go_wp2
                    go_quiet (fail)
                    go_wp2
                    go_roundw
                    case rel => exact ⟨k + 1, by omega, by go_num, HN, by first | exact HX | exact Lib.hid (HX.out.drewN _)⟩
                    case measure => simp [intOf]; omega
                · have b2 : decide (4 ≤ y0') = false := decide_eq_false b1
                  have HN := Lib.hid (noclash_step HA.out (HQ.out.trans (by simp [a2, b1])))
                  go_wp2
                  go_quiet (fail)
                  go_wp2
                  go_quiet (fail)
                  go_wp2
                  go_roundw
                  case rel => exact ⟨k + 1, by omega, by go_num, HN, by first | exact HX | exact Lib.hid (HX.out.drewN _)⟩
                  case measure => simp [intOf]; omega
              · have a4 : decide (4 ≤ x0) = false := decide_eq_false a1
                by_cases d1 : x0 = 3
                · subst d1
                  by_cases f1 : y0' = 3
                  · subst f1
                    by_cases g1 : x3 = y3'
                    · subst g1
                      go_wp2
                      go_quiet (fail)
                      go_wp2
                      go_quiet (fail)
                      go_wp2
                      go_ret
                      exact ⟨rfl, by first | exact HX.out.1 | exact pw_below_drewN HX.out.1 _ | exact pw_below_drewN (pw_below_drewN HX.out.1 _) _⟩
                    · have g2 := ba_list_ne g1
                      have g3 : (x3.toList == y3'.toList) = false := by rw [ba_list]; exact decide_eq_false g1
                      have HN := Lib.hid (noclash_step HA.out (HQ.out.trans (by simp [g1])))
                      go_wp2
                      go_quiet (fail)
                      go_wp2
                      go_quiet (fail)
                      go_wp2
                      go_roundw
                      case rel => exact ⟨k + 1, by omega, by go_num, HN, by first | exact HX | exact Lib.hid (HX.out.drewN _)⟩
                      case measure => simp [intOf]; omega
                  · have f2 : (y0' == 3) = false := beq_eq_false_iff_ne.mpr f1
                    have HN := Lib.hid (noclash_step HA.out (HQ.out.trans (by simp [f1])))
                    go_wp2
                    go_quiet (fail)
                    go_wp2
                    go_quiet (fail)
                    go_wp2
                    go_roundw
                    case rel => exact ⟨k + 1, by omega, by go_num, HN, by first | exact HX | exact Lib.hid (HX.out.drewN _)⟩
                    case measure => simp [intOf]; omega
                · have d2 : (x0 == 3) = false := beq_eq_false_iff_ne.mpr d1
                  have HN := Lib.hid (noclash_step HA.out (HQ.out.trans (by simp [a1, d1])))
                  go_wp2
                  go_quiet (fail)
                  go_wp2
                  go_quiet (fail)
                  go_wp2
                  go_roundw
                  case rel => exact ⟨k + 1, by omega, by go_num, HN, by first | exact HX | exact Lib.hid (HX.out.drewN _)⟩
                  case measure => simp [intOf]; omega
            · have hkt : decide ((k : Int) < (i : Int)) = false := by simp; omega
              have hkt2 : decide (k < i) = false := by simp; omega
              obtain rfl : k = i := by omega
              have HNN := Lib.hid (noclash_next HC.out HA.out)
              subst hA0
              generalize rd_T53 l (k : Int) = x at *
              obtain ⟨x0, x1, x2, x3⟩ := x
              dsimp only at *
              by_cases p1 : x1 < 0
              · go_wp2
                go_ret
                exact ⟨rfl, by first | exact HX.out.1 | exact pw_below_drewN HX.out.1 _ | exact pw_below_drewN (pw_below_drewN HX.out.1 _) _⟩
              · by_cases p2 : 60 < x1
                · go_wp2
                  go_ret
                  exact ⟨rfl, by first | exact HX.out.1 | exact pw_below_drewN HX.out.1 _ | exact pw_below_drewN (pw_below_drewN HX.out.1 _) _⟩
                · by_cases p3 : 5 < x0
                  · go_wp2
                    go_ret
                    exact ⟨rfl, by first | exact HX.out.1 | exact pw_below_drewN HX.out.1 _ | exact pw_below_drewN (pw_below_drewN HX.out.1 _) _⟩
                  · go_wp2
                    go_roundw
                    case rel => exact ⟨k + 1, by omega, by go_num, HNN, by first | exact HX | exact Lib.hid (HX.out.drewN _)⟩
                    case measure => simp [intOf]; omega
        · have hlt : decide ((i : Int) < (l.length : Int)) = false := by simp; omega
          have hlt2 : decide (i < l.length) = false := by simp; omega
          obtain rfl : i = l.length := by omega
          go_wp2
          have HS0 := Lib.hid (show LH w l e0 e1 e2 e3 e4 [] (.slice none 0 0) wr from ⟨fun p hp => absurd hp (by simp), ⟨[], rfl, World.ownsRow_nil _ _ _ _⟩, HX0.out⟩)
          clear HX0
          go_loopw [11, 12] (fun v x U => ∃ (k : Nat) (R : List Prf), k ≤ pl.length ∧ R.length ≤ k ∧ x = .int .i64 (k : Int) ∧ Hid (LH w l e0 e1 e2 e3 e4 R v U)) (fun _ x _ => pl.length + 1 - (intOf x).toNat)
          case atStart => exact ⟨0, [], by omega, by simp, rfl, HS0⟩
          case round =>
            clear HS0
            obtain ⟨k, R, hk, hRk, rfl, HW⟩ := hrel
            by_cases hkp : k < pl.length
            · have hkt : decide ((k : Int) < (pl.length : Int)) = true := by simp; omega
              have hkt2 : decide (k < pl.length) = true := by simp; omega
              obtain ⟨ad, rfl, y0⟩ := Kd.at_int (Kd.C_below HL.out HW.out.2.2.1) (k : Int) (by omega) (by omega)
              simp only [Int.toNat_natCast] at y0
              generalize rd pl (k : Int) = p at *
              by_cases q1 : 0 ≤ p
              · by_cases q2 : p < (l.length : Int)
                · obtain ⟨j, rfl⟩ := Int.eq_ofNat_of_zero_le q1
                  have hj : j < l.length := by omega
                  obtain ⟨hR, ⟨cs5, hX5, hO5⟩, hE5⟩ := HW.out
                  obtain ⟨ad2, hA2, z0, z1, z2, z3⟩ := at_T53 (Kd.C_below HR.out hE5.1) (j : Int) (by omega) (by omega)
                  have HBB := Lib.hid (show (ad2.add (j * 4)).block < w.heap.size from by
                    obtain ⟨ad3, hA3, v0, _⟩ := at_T53 HR.out (j : Int) (by omega) (by omega)
                    rw [hA2] at hA3
                    cases hA3
                    have q := World.block_lt_of_cell? w _ v0; exact q)
                  have HBA := Lib.hid (show (ad.add k).block < w.heap.size from by
                    obtain ⟨ad3, hA3, v0⟩ := Kd.at_int HL.out (k : Int) (by omega) (by omega)
                    cases hA3
                    have q := World.block_lt_of_cell? w _ v0; exact q)
                  simp only [Int.toNat_natCast] at z0 z1 z2 z3
                  subst hA2
                  have HAP := Lib.hid (own_app hR j hj)
                  generalize rd_T53 l (j : Int) = x at *
                  obtain ⟨x0, x1, x2, x3⟩ := x
                  dsimp only at *
                  have HO5 := Lib.hid hO5; have HX5 := Lib.hid hX5; have HE5 := Lib.hid hE5; have HB5 := Lib.hid hE5.1
                  clear hX5 hO5 hE5 hR HW HC HR HL
                  have hsz := HB5.out.size
                  have n0 := World.new_ne wr _ y0; have n1 := World.new_ne wr _ z0
                  have hba : (ad.add k).block < wr.heap.size := by have q := World.block_lt_of_cell? wr _ y0; exact q
                  have hbb : (ad2.add (j * 4)).block < wr.heap.size := by have q := World.block_lt_of_cell? wr _ z0; exact q
                  have HNA := Lib.hid (show some (ad.add k).block ≠ Value.ownBlock u11 from fun e => by have := row_low HO5.out _ e.symm; have := HBA.out; omega)
                  have HNB := Lib.hid (show some (ad2.add (j * 4)).block ≠ Value.ownBlock u11 from fun e => by have := row_low HO5.out _ e.symm; have := HBB.out; omega)
                  go_wp2
                  go_region_held3 (fun w' => w'.cell? (ad.add k) = some (.int .i64 (j : Int)) ∧ w'.cell? (ad2.add (j * 4)) = some (.int .i64 x0) ∧ w'.cell? ⟨(ad2.add (j * 4)).block, (ad2.add (j * 4)).off + 1, none⟩ = some (.int .i64 x1) ∧ w'.cell? ⟨(ad2.add (j * 4)).block, (ad2.add (j * 4)).off + 2, none⟩ = some (.string x2) ∧ w'.cell? ⟨(ad2.add (j * 4)).block, (ad2.add (j * 4)).off + 3, none⟩ = some (.string x3))
                    (first
                      | go_keep
                      | (go_split_ands
                         refine ⟨?_, ?_, ?_, ?_, ?_⟩
                         · (rw [hgrow.cell_far _ (by simp; omega) HNA.out]; go_keep)
                         · (rw [hgrow.cell_far _ (by simp; omega) HNB.out]; go_keep)
                         · (rw [hgrow.cell_far ⟨(ad2.add (j * 4)).block, (ad2.add (j * 4)).off + 1, none⟩ (by simp; omega) HNB.out]; go_keep)
                         · (rw [hgrow.cell_far ⟨(ad2.add (j * 4)).block, (ad2.add (j * 4)).off + 2, none⟩ (by simp; omega) HNB.out]; go_keep)
                         · (rw [hgrow.cell_far ⟨(ad2.add (j * 4)).block, (ad2.add (j * 4)).off + 3, none⟩ (by simp; omega) HNB.out]; go_keep)))
                    ((go_loud (refine step_append_lies _ (by rfl) _ _ _ (by rfl) w.heap.size 55 i0 _ 6 80 Tryz.underlying28 hi0 hz0 hz1 hz2 rfl (by omega) u11 R.length cs5 (by rfl) ((HO5.out.alloc _).drew) ⟨wr.heap.size, 0, none⟩ 1 1 (cellsP ⟨(j : Int), ⟨x0, x1, x2, x3⟩, []⟩ none 0) (by rfl) (by rfl) (cells_new_at _ _ _ _ (by simp)) (by simp [Value.oneCell', cellsP]) (by omega) (by unfold maxLen; omega) (by omega) (by simp; omega) (wr.heap.size + 1) (by simp) ?_); intro gg cap w3 hown1 hgrow hat hlt'))
                  have hB1 := ((below_alloc HB5.out _).drew).grown hgrow (by have := HB5.out.size; simp; omega) (row_low HO5.out)
                  have hP1 := ((HE5.out.2.alloc _).drew).kept hgrow (HE5.out.2.ne_row HO5.out (by decide))
                  have HN := Lib.hid (show LH w l e0 e1 e2 e3 e4 (R ++ [⟨(j : Int), ⟨x0, x1, x2, x3⟩, []⟩]) (.slice (some ⟨gg, 0, none⟩) (R.length + 1) cap) w3 from ⟨HAP.out, ⟨cs5 ++ cellsP ⟨(j : Int), ⟨x0, x1, x2, x3⟩, []⟩ none 0, HX5.out.app ⟨none, 0, [], by rw [List.append_nil], Nat.le_refl _, ⟨rfl, by simp, fun h => absurd h (by simp)⟩, rfl⟩, by rw [List.length_append]; exact hown1⟩, hB1, hP1⟩)
                  clear hB1 hP1 hown1 hgrow hat hlt'
                  go_wp2
                  go_roundw
                  case rel => exact ⟨k + 1, R ++ [⟨(j : Int), ⟨x0, x1, x2, x3⟩, []⟩], by omega, by simp; omega, by go_num, HN⟩
                  case measure => simp [intOf]; omega
                · have q3 : decide (p < (l.length : Int)) = false := decide_eq_false q2
                  go_wp2
                  go_roundw
                  case rel => exact ⟨k + 1, R, by omega, by omega, by go_num, HW⟩
                  case measure => simp [intOf]; omega
              · have q3 : decide (0 ≤ p) = false := decide_eq_false q1
                go_wp2
                go_roundw
                case rel => exact ⟨k + 1, R, by omega, by omega, by go_num, HW⟩
                case measure => simp [intOf]; omega
            · have hkt : decide ((k : Int) < (pl.length : Int)) = false := by simp; omega
              have hkt2 : decide (k < pl.length) = false := by simp; omega
              obtain ⟨AK, cK, rfl, hK⟩ := LH.C HW.out (by omega)
              obtain ⟨hR, _, hB5, hE5⟩ := HW.out
              have hn : R.length ≤ 9223372036854775806 := by omega
              have HE := Lib.hid (fun u (hb : Below wr.heap.size wr u) => lnEdge_any AK cK R e0 e1 e2 e3 e4 u (Kd.C_below hK hb) hn)
              have HH := Lib.hid (fun u (hb : Below wr.heap.size wr u) => holds_own HC.out hR AH cH e0 e1 e2 e3 e4 u (Kd.C_below (Kd.C_below HR.out hB5) hb) (by omega))
              have HB5 := Lib.hid hB5
              have HQ := Lib.hid (Below.refl wr.heap.size wr)
              have HEx := Lib.hid hE5
              have q0 := hE5.cell (i := 0) rfl; have q1 := hE5.cell (i := 1) rfl; have q2 := hE5.cell (i := 2) rfl; have q3 := hE5.cell (i := 3) rfl; have q4 := hE5.cell (i := 4) rfl
              clear hB5 hE5 HW HL HR HC hK hR
              generalize hkl : R.length = kl at *
              cases he1 : lnEdge R ⟨e0, e1, e2, e3, e4⟩
              · rw [he1] at HE
                clear he1 HH
                go_wp2_with (go_at_call 16; with_reducible refine (HE.out _ HQ.out).mono ?_; rintro e w5 ⟨rfl, hb⟩; have HQ5 := Lib.hid (below_step HQ.out hb); clear hb)
                go_ret
                exact ⟨rfl, below_step HB5.out HQ5.out⟩
              · have HHe := Lib.hid (fun u (hb : Below wr.heap.size wr u) => HH.out u hb he1)
                rw [he1] at HE
                clear he1 HH
                go_wp2_with (first
                  | (go_at_call 16; with_reducible refine (HE.out _ HQ.out).mono ?_; rintro e w5 ⟨rfl, hb⟩; have HQ5 := Lib.hid (below_step HQ.out hb); have hx5 := HEx.out.below hb; have r0 := hx5.cell (i := 0) rfl; have r1 := hx5.cell (i := 1) rfl; have r2 := hx5.cell (i := 2) rfl; have r3 := hx5.cell (i := 3) rfl; have r4 := hx5.cell (i := 4) rfl; clear hb hx5)
                  | (go_at_call 30; with_reducible refine (HHe.out _ HQ5.out).mono ?_; rintro e w6 ⟨rfl, hb⟩; have HQ6 := Lib.hid (below_step HQ5.out hb); clear hb))
                go_ret
                exact ⟨rfl, below_step HB5.out HQ6.out⟩
namespace Q
def cartouchelaw15_LeanHolds.f (_ : List Evn) (_ : List Int) (_ _ _ _ _ : Int) : Option Bool := some true
theorem cartouchelaw15_LeanHolds.calls (AH : Option Addr) (cH : Nat) (l : List Evn) (AP : Option Addr) (cP : Nat) (pl : List Int) (e0 e1 e2 e3 e4 : Int) (r : Bool) (w : World) (hT : Tabs w) (hr : Kd.C k53 w AH l.length l) (_ : l.length ≤ cH) (hp : Kd.C (Kd.int .i64) w AP pl.length pl) (_ : pl.length ≤ cP) (h : cartouchelaw15_LeanHolds.f l pl e0 e1 e2 e3 e4 = some r) :
    Calls Tryz.prog 7 #[.slice AH l.length cH, .slice AP pl.length cP, .agg #[.int .i64 e0, .int .i64 e1, .int .i64 e2, .int .i64 e3, .int .i64 e4]] w fun e w' => e = .returned (.bool r) ∧ Below w.heap.size w w' := by
  obtain rfl : true = r := Option.some.inj h
  exact holds_walk AH cH l AP cP pl e0 e1 e2 e3 e4 w hT hr hp
end Q
theorem LeanHolds_pure (l : List Evn) (pl : List Int) (e0 e1 e2 e3 e4 : Int) {B0 B1 B2 : Prop} (_ : B0) (_ : B1) (_ : B2) : Q.cartouchelaw15_LeanHolds.f l pl e0 e1 e2 e3 e4 = some true := rfl
end Go.Proofs.YtjlpjpjodhkpdaaGreatDoor
