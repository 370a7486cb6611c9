/- lean.Bad at any proofs: do proofs show what should not have been seen? -/
import Derived.Deep.QuietTactic
import Derived.BigQuiet
import Derived.Test.YtjlpjpjodhkpdaaGreatDoorEg
set_option maxHeartbeats 32000000
set_option maxRecDepth 100000
set_option linter.unusedVariables false
set_option linter.unusedSimpArgs false
namespace Go.Proofs.YtjlpjpjodhkpdaaGreatDoor
open Go.RowKit Go.Proofs.YtjlpjpjodhkpdaaGreatDoor.Q Go.Proofs.YtjlpjpjodhkpdaaGreatDoorW.PrintWords
theorem fam_off {P : Program} {ops : Array Oper} {C : Nat → World → Prop} {E : List Nat} {Q : Nat → Act → Prop} {k m : Nat} {o : Oper} {rest : List Oper} {a : Act} (hw : Region.wanted o (yielded ops a.tmps) = false) (hp : Fam.posOf E 0 k = none)
 (h : Fam.wpNat P ops C E Q (k + 1) m rest (a.put o.dst undef)) : Fam.wpNat P ops C E Q k m (o :: rest) a :=
 ⟨undef, .inr ⟨hw, rfl, hp⟩, by unfold Fam.stepM; rw [hp]; exact h⟩
def badIs (bx by' : Bool) (bk bi bj : Int) (x y : Evn) (cm : Int) (bw : Bool) (wi wt : Int) (eo : Bool) (ek : Int) : Bool :=
 bx && (by' && (decide (0 ≤ bi) && (decide (x.f0 = 2) && (decide (y.f0 = 3) && (decide (x.f2 = y.f2) && (decide (bi < cm) &&
  (if bk = 1 then decide (x.f3 = y.f3) && (!decide (x.f1 = y.f1) && (eo && decide (ek = 5)))
   else if bk = 2 then !decide (x.f1 = y.f1) && (!decide (x.f3 = y.f3) && (decide (x.f3.size ≠ 0) && (bw && (decide (wi < bj) && decide (wt = y.f1)))))
   else if bk = 3 then decide (x.f1 = y.f1) && (decide (bj < bi) && (!decide (x.f3 = y.f3) && (decide (x.f3.size = 0) || (bw && (decide (wt ≠ x.f1) || (decide (wi < bj) || decide (bi < wi)))))))
   else decide (bk = 4) && (decide (x.f1 = y.f1) && (decide (bi < bj) && decide (x.f3 = y.f3))))))))))
def lnBad (l : List Prf) (bk bi bj : Int) : Bool :=
 let x := (foundP (isAt bi) l).f1
 let y := (foundP (isAt bj) l).f1
 badIs (isP (isAt bi) l) (isP (isAt bj) l) bk bi bj x y (lnCommit l x.f1) (isP (isWr x.f2 x.f3) l) (foundP (isWr x.f2 x.f3) l).f0 (foundP (isWr x.f2 x.f3) l).f1.f1 (isP (isEnd y.f1) l) (foundP (isEnd y.f1) l).f1.f0
theorem lnBad_any (A0 : Option Addr) (c0 : Nat) (l : List Prf) (bk bi bj : Int) (w : World) (hr : Kd.C k55 w A0 l.length l) (hl : l.length ≤ 9223372036854775806) :
 Calls Tryz.prog 14 #[.slice A0 l.length c0, .agg #[.int .i64 bk, .int .i64 bi, .int .i64 bj]] w fun e w' => e = .returned (.bool (lnBad l bk bi bj)) ∧ Below w.heap.size w w' := by
 have HX := Lib.hid (fun u (hb : Below w.heap.size w u) => lnAt_any A0 c0 l bi u (Kd.C_below hr hb) hl)
 have HY := Lib.hid (fun u (hb : Below w.heap.size w u) => lnAt_any A0 c0 l bj u (Kd.C_below hr hb) hl)
 have HC0 := Lib.hid (fun u (hb : Below w.heap.size w u) t => lnCommit_any A0 c0 l t u (Kd.C_below hr hb) hl)
 have HW0 := Lib.hid (fun u (hb : Below w.heap.size w u) z0 z1 z2 z3 => lnWriter_any A0 c0 l z0 z1 z2 z3 u (Kd.C_below hr hb) hl)
 have HE0 := Lib.hid (fun u (hb : Below w.heap.size w u) t => lnEnd_any A0 c0 l t u (Kd.C_below hr hb) hl)
 unfold lnBad
 dsimp only
 generalize isP (isAt bi) l = bx at *
 generalize isP (isAt bj) l = by' at *
 generalize (foundP (isAt bi) l).f1 = x at *
 generalize (foundP (isAt bj) l).f1 = y at *
 obtain ⟨x0, x1, x2, x3⟩ := x
 obtain ⟨y0, y1, y2, y3⟩ := y
 dsimp only at *
 have HC := Lib.hid (fun u (hb : Below w.heap.size w u) => HC0.out u hb x1)
 have HWx := Lib.hid (fun u (hb : Below w.heap.size w u) a0 => HW0.out u hb a0 x1 x2 x3)
 have HEx := Lib.hid (fun u (hb : Below w.heap.size w u) => HE0.out u hb y1)
 clear HC0 HW0 HE0
 generalize lnCommit l x1 = cm at *
 generalize foundP (isWr x2 x3) l = z at *
 generalize isP (isWr x2 x3) l = bw at *
 generalize foundP (isEnd y1) l = v at *
 generalize isP (isEnd y1) l = eo at *
 obtain ⟨z0, ⟨z1, z2, z3, z4⟩, z5⟩ := z
 obtain ⟨v0, ⟨v1, v2, v3, v4⟩, v5⟩ := v
 simp only [prfV] at HWx HEx
 dsimp only at *
 obtain ⟨r, hr0⟩ : ∃ r, r = badIs bx by' bk bi bj ⟨x0, x1, x2, x3⟩ ⟨y0, y1, y2, y3⟩ cm bw z0 z2 eo v1 := ⟨_, rfl⟩
 rw [← hr0]
 have HR := Lib.hid hr0
 clear hr0
 have HB1 := Lib.hid (below_alloc (Below.refl w.heap.size w) (.cells #[.int .i64 bk, .int .i64 bi, .int .i64 bj] 24))
 have HD1 := Lib.hid (RowIs.new w 24 [.int .i64 bk, .int .i64 bi, .int .i64 bj])
 clear hr
 go_enter Tryz.func14, Tryz.ntmps14
 go_wp2_with (go_at_call 38; first | (with_reducible refine (HX.out _ HB1.out).mono ?_; rintro e w1 ⟨rfl, hb⟩; have HB2 := Lib.hid (below_step HB1.out hb); have hd2 := HD1.out.below hb; have c4 := hd2.cell (i := 2) rfl; have HD2 := Lib.hid hd2; have HXN := Lib.hid (RowIs.new w1 53 [.int .i64 x0, .int .i64 x1, .string x2, .string x3]); have hlt1 := hd2.lt; have HB3 := Lib.hid (below_alloc HB2.out (.cells #[.int .i64 x0, .int .i64 x1, .string x2, .string x3] 53)); clear hb hd2) | (with_reducible refine (HY.out _ HB3.out).mono ?_; rintro e w2 ⟨rfl, hb⟩; have HB4 := Lib.hid (below_step HB3.out hb); have hd3 := (HD2.out.alloc (.cells #[.int .i64 x0, .int .i64 x1, .string x2, .string x3] 53)).below hb; have hx3 := HXN.out.below hb; have HD3 := Lib.hid hd3; have HX3 := Lib.hid hx3; have HYN := Lib.hid (RowIs.new w2 53 [.int .i64 y0, .int .i64 y1, .string y2, .string y3]); have HB5 := Lib.hid (below_alloc HB4.out (.cells #[.int .i64 y0, .int .i64 y1, .string y2, .string y3] 53)); clear hb hd3 hx3))
 try clear c4
 try clear hlt1
 have HD4 := Lib.hid (HD3.out.alloc (.cells #[.int .i64 y0, .int .i64 y1, .string y2, .string y3] 53)); have HX4 := Lib.hid (HX3.out.alloc (.cells #[.int .i64 y0, .int .i64 y1, .string y2, .string y3] 53))
 clear HX HY HB1 HB2 HB3 HB4 HD1 HD2 HD3 HX3 HXN
 obtain ⟨wy, hwy⟩ : ∃ wy, wy = w2.alloc (.cells #[.int .i64 y0, .int .i64 y1, .string y2, .string y3] 53) := ⟨_, rfl⟩
 rw [← hwy] at HD4 HX4 HYN HB5 ⊢
 clear hwy
 cases bx
 · obtain rfl : r = false := HR.out.trans (by simp [badIs])
   refine Fam.wp_region_fam [] (fun m u => Below wy.heap.size wy u) (by kernel_rfl) (by kernel_rfl) (Below.refl wy.heap.size wy).drew ?_
   iterate 3 (refine Fam.pure_ (by rfl) (by rfl) rfl (fun K hK => ?_); go_big_quiet_op; refine hK _ ?_; clear hK K)
   iterate 2 (refine fam_off (by rfl) (by rfl) ?_; simp only [Act.put, List.setIfInBounds_toArray, List.set_cons_zero, List.set_cons_succ])
   iterate 2 (refine Fam.pure_ (by rfl) (by rfl) rfl (fun K hK => ?_); go_big_quiet_op; refine hK _ ?_; clear hK K)
   iterate 3 (refine fam_off (by rfl) (by rfl) ?_; simp only [Act.put, List.setIfInBounds_toArray, List.set_cons_zero, List.set_cons_succ])
   iterate 2 (refine Fam.pure_ (by rfl) (by rfl) rfl (fun K hK => ?_); go_big_quiet_op; refine hK _ ?_; clear hK K)
   iterate 3 (refine fam_off (by rfl) (by rfl) ?_; simp only [Act.put, List.setIfInBounds_toArray, List.set_cons_zero, List.set_cons_succ])
   iterate 2 (refine Fam.pure_ (by rfl) (by rfl) rfl (fun K hK => ?_); go_big_quiet_op; refine hK _ ?_; clear hK K)
   iterate 3 (refine fam_off (by rfl) (by rfl) ?_; simp only [Act.put, List.setIfInBounds_toArray, List.set_cons_zero, List.set_cons_succ])
   iterate 2 (refine Fam.pure_ (by rfl) (by rfl) rfl (fun K hK => ?_); go_big_quiet_op; refine hK _ ?_; clear hK K)
   iterate 5 (refine fam_off (by rfl) (by rfl) ?_; simp only [Act.put, List.setIfInBounds_toArray, List.set_cons_zero, List.set_cons_succ])
   iterate 2 (refine Fam.pure_ (by rfl) (by rfl) rfl (fun K hK => ?_); go_big_quiet_op; refine hK _ ?_; clear hK K)
   iterate 7 (refine fam_off (by rfl) (by rfl) ?_; simp only [Act.put, List.setIfInBounds_toArray, List.set_cons_zero, List.set_cons_succ])
   refine Fam.pure_ (by rfl) (by rfl) rfl (fun K hK => ?_)
   go_big_quiet_op
   refine hK _ ?_
   clear hK K
   refine Fam.nil_ ?_
   intro w5 h5
   go_wp2
   go_ret
   exact ⟨by first | rfl | (simp; done) | (simp [*]; done), below_step HB5.out h5⟩
 · cases by'
   · obtain rfl : r = false := HR.out.trans (by simp [badIs])
     refine Fam.wp_region_fam [] (fun m u => Below wy.heap.size wy u) (by kernel_rfl) (by kernel_rfl) (Below.refl wy.heap.size wy).drew ?_
     iterate 7 (refine Fam.pure_ (by rfl) (by rfl) rfl (fun K hK => ?_); go_big_quiet_op; refine hK _ ?_; clear hK K)
     iterate 3 (refine fam_off (by rfl) (by rfl) ?_; simp only [Act.put, List.setIfInBounds_toArray, List.set_cons_zero, List.set_cons_succ])
     iterate 2 (refine Fam.pure_ (by rfl) (by rfl) rfl (fun K hK => ?_); go_big_quiet_op; refine hK _ ?_; clear hK K)
     iterate 3 (refine fam_off (by rfl) (by rfl) ?_; simp only [Act.put, List.setIfInBounds_toArray, List.set_cons_zero, List.set_cons_succ])
     iterate 2 (refine Fam.pure_ (by rfl) (by rfl) rfl (fun K hK => ?_); go_big_quiet_op; refine hK _ ?_; clear hK K)
     iterate 3 (refine fam_off (by rfl) (by rfl) ?_; simp only [Act.put, List.setIfInBounds_toArray, List.set_cons_zero, List.set_cons_succ])
     iterate 2 (refine Fam.pure_ (by rfl) (by rfl) rfl (fun K hK => ?_); go_big_quiet_op; refine hK _ ?_; clear hK K)
     iterate 5 (refine fam_off (by rfl) (by rfl) ?_; simp only [Act.put, List.setIfInBounds_toArray, List.set_cons_zero, List.set_cons_succ])
     iterate 2 (refine Fam.pure_ (by rfl) (by rfl) rfl (fun K hK => ?_); go_big_quiet_op; refine hK _ ?_; clear hK K)
     iterate 7 (refine fam_off (by rfl) (by rfl) ?_; simp only [Act.put, List.setIfInBounds_toArray, List.set_cons_zero, List.set_cons_succ])
     refine Fam.pure_ (by rfl) (by rfl) rfl (fun K hK => ?_)
     go_big_quiet_op
     refine hK _ ?_
     clear hK K
     refine Fam.nil_ ?_
     intro w5 h5
     go_wp2
     go_ret
     exact ⟨by first | rfl | (simp; done) | (simp [*]; done), below_step HB5.out h5⟩
   · by_cases k2 : bi < 0
     · obtain rfl : r = false := HR.out.trans (by simp [badIs, show ¬ 0 ≤ bi by omega])
       refine Fam.wp_region_fam [] (fun m u => Below wy.heap.size wy u) (by kernel_rfl) (by kernel_rfl) (Below.refl wy.heap.size wy).drew ?_
       iterate 8 (refine Fam.pure_ (by rfl) (by rfl) rfl (fun K hK => ?_); go_big_quiet_op; refine hK _ ?_; clear hK K)
       refine Fam.read_ (.int .i64 bi) (by rfl) (by rfl) (fun m' _ u hu => ?_) ?_
       · have hx := (HD4.out.below hu).cell (i := 1) rfl
         clear hu; go_simp
       simp only [Act.put, List.setIfInBounds_toArray, List.set_cons_zero, List.set_cons_succ]
       refine Fam.any_ (.bool true) (by rfl) (by rfl) (fun w => ?_) ?_
       · go_simp
       simp only [Act.put, List.setIfInBounds_toArray, List.set_cons_zero, List.set_cons_succ]
       iterate 2 (refine Fam.pure_ (by rfl) (by rfl) rfl (fun K hK => ?_); go_big_quiet_op; refine hK _ ?_; clear hK K)
       iterate 3 (refine fam_off (by rfl) (by rfl) ?_; simp only [Act.put, List.setIfInBounds_toArray, List.set_cons_zero, List.set_cons_succ])
       iterate 2 (refine Fam.pure_ (by rfl) (by rfl) rfl (fun K hK => ?_); go_big_quiet_op; refine hK _ ?_; clear hK K)
       iterate 3 (refine fam_off (by rfl) (by rfl) ?_; simp only [Act.put, List.setIfInBounds_toArray, List.set_cons_zero, List.set_cons_succ])
       iterate 2 (refine Fam.pure_ (by rfl) (by rfl) rfl (fun K hK => ?_); go_big_quiet_op; refine hK _ ?_; clear hK K)
       iterate 5 (refine fam_off (by rfl) (by rfl) ?_; simp only [Act.put, List.setIfInBounds_toArray, List.set_cons_zero, List.set_cons_succ])
       iterate 2 (refine Fam.pure_ (by rfl) (by rfl) rfl (fun K hK => ?_); go_big_quiet_op; refine hK _ ?_; clear hK K)
       iterate 7 (refine fam_off (by rfl) (by rfl) ?_; simp only [Act.put, List.setIfInBounds_toArray, List.set_cons_zero, List.set_cons_succ])
       refine Fam.pure_ (by rfl) (by rfl) rfl (fun K hK => ?_)
       go_big_quiet_op
       refine hK _ ?_
       clear hK K
       refine Fam.nil_ ?_
       intro w5 h5
       go_wp2
       go_ret
       exact ⟨by first | rfl | (simp; done) | (simp [*]; done), below_step HB5.out h5⟩
     · have k2' : 0 ≤ bi := by omega
       by_cases k3 : x0 = 2
       · subst k3
         by_cases k4 : y0 = 3
         · subst k4
           by_cases k5 : x2 = y2
           · subst k5
             by_cases k6 : cm ≤ bi
             · obtain rfl : r = false := HR.out.trans (by simp [badIs, show ¬ bi < cm by omega])
               refine Fam.wp_region_fam [32] (fun m u => Below wy.heap.size wy u) (by kernel_rfl) (by kernel_rfl) (Below.refl wy.heap.size wy).drew ?_
               iterate 8 (refine Fam.pure_ (by rfl) (by rfl) rfl (fun K hK => ?_); go_big_quiet_op; refine hK _ ?_; clear hK K)
               refine Fam.read_ (.int .i64 bi) (by rfl) (by rfl) (fun m' _ u hu => ?_) ?_
               · have hx := (HD4.out.below hu).cell (i := 1) rfl
                 clear hu; go_simp
               simp only [Act.put, List.setIfInBounds_toArray, List.set_cons_zero, List.set_cons_succ]
               refine Fam.any_ (.bool false) (by rfl) (by rfl) (fun w => ?_) ?_
               · go_simp
               simp only [Act.put, List.setIfInBounds_toArray, List.set_cons_zero, List.set_cons_succ]
               iterate 3 (refine Fam.pure_ (by rfl) (by rfl) rfl (fun K hK => ?_); go_big_quiet_op; refine hK _ ?_; clear hK K)
               refine Fam.read_ (.int .i64 2) (by rfl) (by rfl) (fun m' _ u hu => ?_) ?_
               · have hx := (HX4.out.below hu).cell (i := 0) rfl
                 clear hu; go_simp
               simp only [Act.put, List.setIfInBounds_toArray, List.set_cons_zero, List.set_cons_succ]
               refine Fam.any_ (.bool false) (by rfl) (by rfl) (fun w => ?_) ?_
               · go_simp
               simp only [Act.put, List.setIfInBounds_toArray, List.set_cons_zero, List.set_cons_succ]
               iterate 3 (refine Fam.pure_ (by rfl) (by rfl) rfl (fun K hK => ?_); go_big_quiet_op; refine hK _ ?_; clear hK K)
               refine Fam.read_ (.int .i64 3) (by rfl) (by rfl) (fun m' _ u hu => ?_) ?_
               · have hx := (HYN.out.below hu).cell (i := 0) rfl
                 clear hu; go_simp
               simp only [Act.put, List.setIfInBounds_toArray, List.set_cons_zero, List.set_cons_succ]
               refine Fam.any_ (.bool false) (by rfl) (by rfl) (fun w => ?_) ?_
               · go_simp
               simp only [Act.put, List.setIfInBounds_toArray, List.set_cons_zero, List.set_cons_succ]
               iterate 3 (refine Fam.pure_ (by rfl) (by rfl) rfl (fun K hK => ?_); go_big_quiet_op; refine hK _ ?_; clear hK K)
               refine Fam.read_ (.string x2) (by rfl) (by rfl) (fun m' _ u hu => ?_) ?_
               · have hx := (HX4.out.below hu).cell (i := 2) rfl
                 clear hu; go_simp
               simp only [Act.put, List.setIfInBounds_toArray, List.set_cons_zero, List.set_cons_succ]
               refine Fam.pure_ (by rfl) (by rfl) rfl (fun K hK => ?_)
               go_big_quiet_op
               refine hK _ ?_
               clear hK K
               refine Fam.read_ (.string x2) (by rfl) (by rfl) (fun m' _ u hu => ?_) ?_
               · have hx := (HYN.out.below hu).cell (i := 2) rfl
                 clear hu; go_simp
               simp only [Act.put, List.setIfInBounds_toArray, List.set_cons_zero, List.set_cons_succ]
               refine Fam.any_ (.bool false) (by rfl) (by rfl) (fun w => ?_) ?_
               · go_simp
               simp only [Act.put, List.setIfInBounds_toArray, List.set_cons_zero, List.set_cons_succ]
               iterate 4 (refine Fam.pure_ (by rfl) (by rfl) rfl (fun K hK => ?_); go_big_quiet_op; refine hK _ ?_; clear hK K)
               refine Fam.read_ (.int .i64 x1) (by rfl) (by rfl) (fun m' _ u hu => ?_) ?_
               · have hx := (HX4.out.below hu).cell (i := 1) rfl
                 clear hu; go_simp
               simp only [Act.put, List.setIfInBounds_toArray, List.set_cons_zero, List.set_cons_succ]
               refine Fam.effCall_ (.int .i64 cm) 39 ?_ (by rfl) (by rfl) (fun w => ?_) (fun u hu => ?_) ?_
               rotate_left
               · go_simp; rfl
               · exact (HC.out u (below_step HB5.out hu)).mono fun e u' ⟨he, hb⟩ => ⟨he, hu.trans (hb.mono hu.size)⟩
               simp only [Act.put, List.setIfInBounds_toArray, List.set_cons_zero, List.set_cons_succ]
               refine Fam.pure_ (by rfl) (by rfl) rfl (fun K hK => ?_)
               go_big_quiet_op
               refine hK _ ?_
               clear hK K
               refine Fam.read_ (.int .i64 bi) (by rfl) (by rfl) (fun m' _ u hu => ?_) ?_
               · have hx := (HD4.out.below hu).cell (i := 1) rfl
                 clear hu; go_simp
               simp only [Act.put, List.setIfInBounds_toArray, List.set_cons_zero, List.set_cons_succ]
               refine Fam.any_ (.bool true) (by rfl) (by rfl) (fun w => ?_) ?_
               · go_simp
               simp only [Act.put, List.setIfInBounds_toArray, List.set_cons_zero, List.set_cons_succ]
               refine Fam.pure_ (by rfl) (by rfl) rfl (fun K hK => ?_)
               go_big_quiet_op
               refine hK _ ?_
               clear hK K
               refine Fam.nil_ ?_
               intro w5 h5
               go_wp2
               go_ret
               exact ⟨by first | rfl | (simp; done) | (simp [*]; done), below_step HB5.out h5⟩
             · have k6' : bi < cm := by omega
               refine Fam.wp_region_fam [32] (fun m u => Below wy.heap.size wy u) (by kernel_rfl) (by kernel_rfl) (Below.refl wy.heap.size wy).drew ?_
               iterate 8 (refine Fam.pure_ (by rfl) (by rfl) rfl (fun K hK => ?_); go_big_quiet_op; refine hK _ ?_; clear hK K)
               refine Fam.read_ (.int .i64 bi) (by rfl) (by rfl) (fun m' _ u hu => ?_) ?_
               · have hx := (HD4.out.below hu).cell (i := 1) rfl
                 clear hu; go_simp
               simp only [Act.put, List.setIfInBounds_toArray, List.set_cons_zero, List.set_cons_succ]
               refine Fam.any_ (.bool false) (by rfl) (by rfl) (fun w => ?_) ?_
               · go_simp
               simp only [Act.put, List.setIfInBounds_toArray, List.set_cons_zero, List.set_cons_succ]
               iterate 3 (refine Fam.pure_ (by rfl) (by rfl) rfl (fun K hK => ?_); go_big_quiet_op; refine hK _ ?_; clear hK K)
               refine Fam.read_ (.int .i64 2) (by rfl) (by rfl) (fun m' _ u hu => ?_) ?_
               · have hx := (HX4.out.below hu).cell (i := 0) rfl
                 clear hu; go_simp
               simp only [Act.put, List.setIfInBounds_toArray, List.set_cons_zero, List.set_cons_succ]
               refine Fam.any_ (.bool false) (by rfl) (by rfl) (fun w => ?_) ?_
               · go_simp
               simp only [Act.put, List.setIfInBounds_toArray, List.set_cons_zero, List.set_cons_succ]
               iterate 3 (refine Fam.pure_ (by rfl) (by rfl) rfl (fun K hK => ?_); go_big_quiet_op; refine hK _ ?_; clear hK K)
               refine Fam.read_ (.int .i64 3) (by rfl) (by rfl) (fun m' _ u hu => ?_) ?_
               · have hx := (HYN.out.below hu).cell (i := 0) rfl
                 clear hu; go_simp
               simp only [Act.put, List.setIfInBounds_toArray, List.set_cons_zero, List.set_cons_succ]
               refine Fam.any_ (.bool false) (by rfl) (by rfl) (fun w => ?_) ?_
               · go_simp
               simp only [Act.put, List.setIfInBounds_toArray, List.set_cons_zero, List.set_cons_succ]
               iterate 3 (refine Fam.pure_ (by rfl) (by rfl) rfl (fun K hK => ?_); go_big_quiet_op; refine hK _ ?_; clear hK K)
               refine Fam.read_ (.string x2) (by rfl) (by rfl) (fun m' _ u hu => ?_) ?_
               · have hx := (HX4.out.below hu).cell (i := 2) rfl
                 clear hu; go_simp
               simp only [Act.put, List.setIfInBounds_toArray, List.set_cons_zero, List.set_cons_succ]
               refine Fam.pure_ (by rfl) (by rfl) rfl (fun K hK => ?_)
               go_big_quiet_op
               refine hK _ ?_
               clear hK K
               refine Fam.read_ (.string x2) (by rfl) (by rfl) (fun m' _ u hu => ?_) ?_
               · have hx := (HYN.out.below hu).cell (i := 2) rfl
                 clear hu; go_simp
               simp only [Act.put, List.setIfInBounds_toArray, List.set_cons_zero, List.set_cons_succ]
               refine Fam.any_ (.bool false) (by rfl) (by rfl) (fun w => ?_) ?_
               · go_simp
               simp only [Act.put, List.setIfInBounds_toArray, List.set_cons_zero, List.set_cons_succ]
               iterate 4 (refine Fam.pure_ (by rfl) (by rfl) rfl (fun K hK => ?_); go_big_quiet_op; refine hK _ ?_; clear hK K)
               refine Fam.read_ (.int .i64 x1) (by rfl) (by rfl) (fun m' _ u hu => ?_) ?_
               · have hx := (HX4.out.below hu).cell (i := 1) rfl
                 clear hu; go_simp
               simp only [Act.put, List.setIfInBounds_toArray, List.set_cons_zero, List.set_cons_succ]
               refine Fam.effCall_ (.int .i64 cm) 39 ?_ (by rfl) (by rfl) (fun w => ?_) (fun u hu => ?_) ?_
               rotate_left
               · go_simp; rfl
               · exact (HC.out u (below_step HB5.out hu)).mono fun e u' ⟨he, hb⟩ => ⟨he, hu.trans (hb.mono hu.size)⟩
               simp only [Act.put, List.setIfInBounds_toArray, List.set_cons_zero, List.set_cons_succ]
               refine Fam.pure_ (by rfl) (by rfl) rfl (fun K hK => ?_)
               go_big_quiet_op
               refine hK _ ?_
               clear hK K
               refine Fam.read_ (.int .i64 bi) (by rfl) (by rfl) (fun m' _ u hu => ?_) ?_
               · have hx := (HD4.out.below hu).cell (i := 1) rfl
                 clear hu; go_simp
               simp only [Act.put, List.setIfInBounds_toArray, List.set_cons_zero, List.set_cons_succ]
               refine Fam.any_ (.bool false) (by rfl) (by rfl) (fun w => ?_) ?_
               · go_simp
               simp only [Act.put, List.setIfInBounds_toArray, List.set_cons_zero, List.set_cons_succ]
               refine Fam.pure_ (by rfl) (by rfl) rfl (fun K hK => ?_)
               go_big_quiet_op
               refine hK _ ?_
               clear hK K
               refine Fam.nil_ ?_
               intro w5 h5
               have HBw := Lib.hid (below_step HB5.out h5)
               have HD := Lib.hid (HD4.out.below h5); have HXX := Lib.hid (HX4.out.below h5); have HYY := Lib.hid (HYN.out.below h5)
               clear HD4 HX4 HYN HB5 HC h5
               have p0 := HXX.out.cell (i := 0) rfl; have p1 := HXX.out.cell (i := 1) rfl; have p2 := HXX.out.cell (i := 2) rfl; have p3 := HXX.out.cell (i := 3) rfl
               go_wp2_with (go_at_call 40; refine (HWx.out _ HBw.out 2).mono ?_; rintro e w6 ⟨⟨A5, n5, c5, rfl⟩, hb⟩; have HB6 := Lib.hid (below_step HBw.out hb); have hx6 := HXX.out.below hb; have hy6 := HYY.out.below hb; have hd6 := HD.out.below hb; have HX6 := Lib.hid hx6; have HY6 := Lib.hid hy6; have HD6 := Lib.hid hd6; clear hb hx6 hy6 hd6)
               clear p0 p1 p2 p3
               obtain ⟨w7, hw7⟩ : ∃ w7, w7 = w6.alloc (.cells #[.int .i64 z0, .int .i64 z1, .int .i64 z2, .string z3, .string z4, .slice A5 n5 c5] 55) := ⟨_, rfl⟩
               have hz7 : RowIs w7 w6.heap.size 55 [.int .i64 z0, .int .i64 z1, .int .i64 z2, .string z3, .string z4, .slice A5 n5 c5] := by rw [hw7]; exact RowIs.new w6 55 [.int .i64 z0, .int .i64 z1, .int .i64 z2, .string z3, .string z4, .slice A5 n5 c5]
               have hb7 : Below w6.heap.size w6 w7 := by rw [hw7]; exact below_alloc (Below.refl _ _) _
               rw [← hw7]
               have HB7 := Lib.hid (below_step HB6.out hb7); have HX7 := Lib.hid (HX6.out.below hb7); have HY7 := Lib.hid (HY6.out.below hb7); have HD7 := Lib.hid (HD6.out.below hb7); have HZ7 := Lib.hid hz7
               clear hw7 hz7 hb7 HX6 HY6 HD6 HXX HYY HD HBw HB6 HWx
               have p1 := HX7.out.cell (i := 1) rfl; have p3 := HX7.out.cell (i := 3) rfl; have q1 := HY7.out.cell (i := 1) rfl; have q3 := HY7.out.cell (i := 3) rfl
               have d0 := HD7.out.cell (i := 0) rfl; have d1 := HD7.out.cell (i := 1) rfl; have d2 := HD7.out.cell (i := 2) rfl; have u0 := HZ7.out.cell (i := 0) rfl; have u2 := HZ7.out.cell (i := 2) rfl
               by_cases g1 : x1 = y1
               · subst g1
                 by_cases g2 : x3 = y3
                 · subst g2
                   go_quiet (fail)
                   by_cases f1 : bk = 1
                   · subst f1
                     obtain rfl : r = false := HR.out.trans (by simp [badIs, k2', k6'])
                     go_wp2_with (go_at_call 41; refine (HEx.out _ ?hbx).mono ?_; (case hbx => first | exact HB7.out | exact pw_below_drewN HB7.out _ | exact below_drew1 HB7.out); rintro e w8 ⟨⟨A6, n6, c6, rfl⟩, hb⟩; have HB8 := Lib.hid (below_step (by first | exact HB7.out | exact pw_below_drewN HB7.out _ | exact below_drew1 HB7.out) hb); have HB9 := Lib.hid (below_alloc HB8.out (.cells #[.int .i64 v0, .int .i64 v1, .int .i64 v2, .string v3, .string v4, .slice A6 n6 c6] 55)); clear hb)
                     go_ret
                     exact ⟨by first | rfl | (simp; done) | (simp [*]; done) | (simp; omega), HB9.out⟩
                   · by_cases f3 : bk = 2
                     · subst f3
                       obtain rfl : r = false := HR.out.trans (by simp [badIs, k2', k6'])
                       go_wp2
                       go_ret
                       exact ⟨by first | rfl | (simp; done) | (simp [*]; done) | (simp; omega), by first | exact HB7.out | exact pw_below_drewN HB7.out _ | exact below_drew1 HB7.out⟩
                     · by_cases f9 : bk = 3
                       · subst f9
                         by_cases f4 : bj < bi
                         · obtain rfl : r = false := HR.out.trans (by simp [badIs, k2', k6', f4])
                           go_wp2
                           go_ret
                           exact ⟨by first | rfl | (simp; done) | (simp [*]; done) | (simp; omega), by first | exact HB7.out | exact pw_below_drewN HB7.out _ | exact below_drew1 HB7.out⟩
                         · obtain rfl : r = false := HR.out.trans (by simp [badIs, k2', k6', f4])
                           go_wp2
                           go_ret
                           exact ⟨by first | rfl | (simp; done) | (simp [*]; done) | (simp; omega), by first | exact HB7.out | exact pw_below_drewN HB7.out _ | exact below_drew1 HB7.out⟩
                       · by_cases j3 : bk = 4
                         · subst j3
                           by_cases f4 : bi < bj
                           · obtain rfl : r = true := HR.out.trans (by simp [badIs, k2', k6', f4])
                             go_wp2
                             go_ret
                             exact ⟨by first | rfl | (simp; done) | (simp [*]; done) | (simp; omega), by first | exact HB7.out | exact pw_below_drewN HB7.out _ | exact below_drew1 HB7.out⟩
                           · obtain rfl : r = false := HR.out.trans (by simp [badIs, k2', k6', f4])
                             go_wp2
                             go_ret
                             exact ⟨by first | rfl | (simp; done) | (simp [*]; done) | (simp; omega), by first | exact HB7.out | exact pw_below_drewN HB7.out _ | exact below_drew1 HB7.out⟩
                         · obtain rfl : r = false := HR.out.trans (by simp [badIs, k2', k6', f1, f3, f9, j3])
                           go_wp2
                           go_ret
                           exact ⟨by first | rfl | (simp; done) | (simp [*]; done) | (simp; omega), by first | exact HB7.out | exact pw_below_drewN HB7.out _ | exact below_drew1 HB7.out⟩
                 · have g2b : (x3.toList == y3.toList) = false := by rw [ba_list]; exact decide_eq_false g2
                   go_quiet (fail)
                   by_cases f1 : bk = 1
                   · subst f1
                     obtain rfl : r = false := HR.out.trans (by simp [badIs, k2', k6', g2])
                     go_wp2_with (go_at_call 41; refine (HEx.out _ ?hbx).mono ?_; (case hbx => first | exact HB7.out | exact pw_below_drewN HB7.out _ | exact below_drew1 HB7.out); rintro e w8 ⟨⟨A6, n6, c6, rfl⟩, hb⟩; have HB8 := Lib.hid (below_step (by first | exact HB7.out | exact pw_below_drewN HB7.out _ | exact below_drew1 HB7.out) hb); have HB9 := Lib.hid (below_alloc HB8.out (.cells #[.int .i64 v0, .int .i64 v1, .int .i64 v2, .string v3, .string v4, .slice A6 n6 c6] 55)); clear hb)
                     go_ret
                     exact ⟨by first | rfl | (simp; done) | (simp [*]; done) | (simp; omega), HB9.out⟩
                   · by_cases f3 : bk = 2
                     · subst f3
                       obtain rfl : r = false := HR.out.trans (by simp [badIs, k2', k6', g2])
                       go_wp2
                       go_ret
                       exact ⟨by first | rfl | (simp; done) | (simp [*]; done) | (simp; omega), by first | exact HB7.out | exact pw_below_drewN HB7.out _ | exact below_drew1 HB7.out⟩
                     · by_cases f9 : bk = 3
                       · subst f9
                         by_cases f4 : bj < bi
                         · by_cases f5 : x3.size = 0
                           · obtain rfl : r = true := HR.out.trans (by simp [badIs, k2', k6', g2, f4, f5])
                             have f6 := ba_nil1 f5
                             subst f6
                             go_wp2
                             go_ret
                             exact ⟨by first | rfl | (simp; done) | (simp [*]; done) | (simp; omega), by first | exact HB7.out | exact pw_below_drewN HB7.out _ | exact below_drew1 HB7.out⟩
                           · have f6 := ba_none1 f5
                             have f7 : (x3.toList == []) = false := by rw [ba_list_nil1]; exact decide_eq_false f5
                             cases bw
                             · obtain rfl : r = false := HR.out.trans (by simp [badIs, k2', k6', g2, f4, f5])
                               go_wp2
                               go_ret
                               exact ⟨by first | rfl | (simp; done) | (simp [*]; done) | (simp; omega), by first | exact HB7.out | exact pw_below_drewN HB7.out _ | exact below_drew1 HB7.out⟩
                             · by_cases f8 : z2 = x1
                               · by_cases j1 : z0 < bj
                                 · obtain rfl : r = true := HR.out.trans (by simp [badIs, k2', k6', g2, f4, f5, f8, j1])
                                   go_wp2
                                   go_ret
                                   exact ⟨by first | rfl | (simp; done) | (simp [*]; done) | (simp; omega), by first | exact HB7.out | exact pw_below_drewN HB7.out _ | exact below_drew1 HB7.out⟩
                                 · by_cases j2 : bi < z0
                                   · obtain rfl : r = true := HR.out.trans (by simp [badIs, k2', k6', g2, f4, f5, f8, j1, j2])
                                     go_wp2
                                     go_ret
                                     exact ⟨by first | rfl | (simp; done) | (simp [*]; done) | (simp; omega), by first | exact HB7.out | exact pw_below_drewN HB7.out _ | exact below_drew1 HB7.out⟩
                                   · obtain rfl : r = false := HR.out.trans (by simp [badIs, k2', k6', g2, f4, f5, f8, j1, j2])
                                     go_wp2
                                     go_ret
                                     exact ⟨by first | rfl | (simp; done) | (simp [*]; done) | (simp; omega), by first | exact HB7.out | exact pw_below_drewN HB7.out _ | exact below_drew1 HB7.out⟩
                               · obtain rfl : r = true := HR.out.trans (by simp [badIs, k2', k6', g2, f4, f5, f8])
                                 have f8b : (z2 != x1) = true := bne_iff_ne.mpr f8
                                 go_wp2
                                 go_ret
                                 exact ⟨by first | rfl | (simp; done) | (simp [*]; done) | (simp; omega), by first | exact HB7.out | exact pw_below_drewN HB7.out _ | exact below_drew1 HB7.out⟩
                         · obtain rfl : r = false := HR.out.trans (by simp [badIs, k2', k6', g2, f4])
                           go_wp2
                           go_ret
                           exact ⟨by first | rfl | (simp; done) | (simp [*]; done) | (simp; omega), by first | exact HB7.out | exact pw_below_drewN HB7.out _ | exact below_drew1 HB7.out⟩
                       · by_cases j3 : bk = 4
                         · subst j3
                           by_cases f4 : bi < bj
                           · obtain rfl : r = false := HR.out.trans (by simp [badIs, k2', k6', g2, f4])
                             go_wp2
                             go_ret
                             exact ⟨by first | rfl | (simp; done) | (simp [*]; done) | (simp; omega), by first | exact HB7.out | exact pw_below_drewN HB7.out _ | exact below_drew1 HB7.out⟩
                           · obtain rfl : r = false := HR.out.trans (by simp [badIs, k2', k6', g2, f4])
                             go_wp2
                             go_ret
                             exact ⟨by first | rfl | (simp; done) | (simp [*]; done) | (simp; omega), by first | exact HB7.out | exact pw_below_drewN HB7.out _ | exact below_drew1 HB7.out⟩
                         · obtain rfl : r = false := HR.out.trans (by simp [badIs, k2', k6', g2, f1, f3, f9, j3])
                           go_wp2
                           go_ret
                           exact ⟨by first | rfl | (simp; done) | (simp [*]; done) | (simp; omega), by first | exact HB7.out | exact pw_below_drewN HB7.out _ | exact below_drew1 HB7.out⟩
               · have g1b : (x1 == y1) = false := beq_eq_false_iff_ne.mpr g1
                 by_cases g2 : x3 = y3
                 · subst g2
                   go_quiet (fail)
                   by_cases f1 : bk = 1
                   · subst f1
                     cases eo
                     · obtain rfl : r = false := HR.out.trans (by simp [badIs, k2', k6', g1])
                       go_wp2_with (go_at_call 41; refine (HEx.out _ ?hbx).mono ?_; (case hbx => first | exact HB7.out | exact pw_below_drewN HB7.out _ | exact below_drew1 HB7.out); rintro e w8 ⟨⟨A6, n6, c6, rfl⟩, hb⟩; have HB8 := Lib.hid (below_step (by first | exact HB7.out | exact pw_below_drewN HB7.out _ | exact below_drew1 HB7.out) hb); have HB9 := Lib.hid (below_alloc HB8.out (.cells #[.int .i64 v0, .int .i64 v1, .int .i64 v2, .string v3, .string v4, .slice A6 n6 c6] 55)); clear hb)
                       go_ret
                       exact ⟨by first | rfl | (simp; done) | (simp [*]; done) | (simp; omega), HB9.out⟩
                     · by_cases f2 : v1 = 5
                       · obtain rfl : r = true := HR.out.trans (by simp [badIs, k2', k6', g1, f2])
                         subst f2
                         go_wp2_with (go_at_call 41; refine (HEx.out _ ?hbx).mono ?_; (case hbx => first | exact HB7.out | exact pw_below_drewN HB7.out _ | exact below_drew1 HB7.out); rintro e w8 ⟨⟨A6, n6, c6, rfl⟩, hb⟩; have HB8 := Lib.hid (below_step (by first | exact HB7.out | exact pw_below_drewN HB7.out _ | exact below_drew1 HB7.out) hb); have HB9 := Lib.hid (below_alloc HB8.out (.cells #[.int .i64 v0, .int .i64 5, .int .i64 v2, .string v3, .string v4, .slice A6 n6 c6] 55)); clear hb)
                         go_ret
                         exact ⟨by first | rfl | (simp; done) | (simp [*]; done) | (simp; omega), HB9.out⟩
                       · obtain rfl : r = false := HR.out.trans (by simp [badIs, k2', k6', g1, f2])
                         have f2b : (v1 == 5) = false := beq_eq_false_iff_ne.mpr f2
                         go_wp2_with (go_at_call 41; refine (HEx.out _ ?hbx).mono ?_; (case hbx => first | exact HB7.out | exact pw_below_drewN HB7.out _ | exact below_drew1 HB7.out); rintro e w8 ⟨⟨A6, n6, c6, rfl⟩, hb⟩; have HB8 := Lib.hid (below_step (by first | exact HB7.out | exact pw_below_drewN HB7.out _ | exact below_drew1 HB7.out) hb); have HB9 := Lib.hid (below_alloc HB8.out (.cells #[.int .i64 v0, .int .i64 v1, .int .i64 v2, .string v3, .string v4, .slice A6 n6 c6] 55)); clear hb)
                         go_ret
                         exact ⟨by first | rfl | (simp; done) | (simp [*]; done) | (simp; omega), HB9.out⟩
                   · by_cases f3 : bk = 2
                     · subst f3
                       obtain rfl : r = false := HR.out.trans (by simp [badIs, k2', k6', g1])
                       go_wp2
                       go_ret
                       exact ⟨by first | rfl | (simp; done) | (simp [*]; done) | (simp; omega), by first | exact HB7.out | exact pw_below_drewN HB7.out _ | exact below_drew1 HB7.out⟩
                     · by_cases f9 : bk = 3
                       · subst f9
                         obtain rfl : r = false := HR.out.trans (by simp [badIs, k2', k6', g1])
                         go_wp2
                         go_ret
                         exact ⟨by first | rfl | (simp; done) | (simp [*]; done) | (simp; omega), by first | exact HB7.out | exact pw_below_drewN HB7.out _ | exact below_drew1 HB7.out⟩
                       · by_cases j3 : bk = 4
                         · subst j3
                           obtain rfl : r = false := HR.out.trans (by simp [badIs, k2', k6', g1])
                           go_wp2
                           go_ret
                           exact ⟨by first | rfl | (simp; done) | (simp [*]; done) | (simp; omega), by first | exact HB7.out | exact pw_below_drewN HB7.out _ | exact below_drew1 HB7.out⟩
                         · obtain rfl : r = false := HR.out.trans (by simp [badIs, k2', k6', g1, f1, f3, f9, j3])
                           go_wp2
                           go_ret
                           exact ⟨by first | rfl | (simp; done) | (simp [*]; done) | (simp; omega), by first | exact HB7.out | exact pw_below_drewN HB7.out _ | exact below_drew1 HB7.out⟩
                 · have g2b : (x3.toList == y3.toList) = false := by rw [ba_list]; exact decide_eq_false g2
                   go_quiet (fail)
                   by_cases f1 : bk = 1
                   · subst f1
                     obtain rfl : r = false := HR.out.trans (by simp [badIs, k2', k6', g1, g2])
                     go_wp2_with (go_at_call 41; refine (HEx.out _ ?hbx).mono ?_; (case hbx => first | exact HB7.out | exact pw_below_drewN HB7.out _ | exact below_drew1 HB7.out); rintro e w8 ⟨⟨A6, n6, c6, rfl⟩, hb⟩; have HB8 := Lib.hid (below_step (by first | exact HB7.out | exact pw_below_drewN HB7.out _ | exact below_drew1 HB7.out) hb); have HB9 := Lib.hid (below_alloc HB8.out (.cells #[.int .i64 v0, .int .i64 v1, .int .i64 v2, .string v3, .string v4, .slice A6 n6 c6] 55)); clear hb)
                     go_ret
                     exact ⟨by first | rfl | (simp; done) | (simp [*]; done) | (simp; omega), HB9.out⟩
                   · by_cases f3 : bk = 2
                     · subst f3
                       by_cases f4 : x3.size = 0
                       · obtain rfl : r = false := HR.out.trans (by simp [badIs, k2', k6', g1, g2, f4])
                         have f5 := ba_nil1 f4
                         subst f5
                         go_wp2
                         go_ret
                         exact ⟨by first | rfl | (simp; done) | (simp [*]; done) | (simp; omega), by first | exact HB7.out | exact pw_below_drewN HB7.out _ | exact below_drew1 HB7.out⟩
                       · have f5 := ba_none1 f4
                         have f6 : (x3.toList == []) = false := by rw [ba_list_nil1]; exact decide_eq_false f4
                         cases bw
                         · obtain rfl : r = false := HR.out.trans (by simp [badIs, k2', k6', g1, g2, f4])
                           go_wp2
                           go_ret
                           exact ⟨by first | rfl | (simp; done) | (simp [*]; done) | (simp; omega), by first | exact HB7.out | exact pw_below_drewN HB7.out _ | exact below_drew1 HB7.out⟩
                         · by_cases f7 : z0 < bj
                           · by_cases f8 : z2 = y1
                             · obtain rfl : r = true := HR.out.trans (by simp [badIs, k2', k6', g1, g2, f4, f7, f8])
                               go_wp2
                               go_ret
                               exact ⟨by first | rfl | (simp; done) | (simp [*]; done) | (simp; omega), by first | exact HB7.out | exact pw_below_drewN HB7.out _ | exact below_drew1 HB7.out⟩
                             · obtain rfl : r = false := HR.out.trans (by simp [badIs, k2', k6', g1, g2, f4, f7, f8])
                               have f8b : (z2 == y1) = false := beq_eq_false_iff_ne.mpr f8
                               go_wp2
                               go_ret
                               exact ⟨by first | rfl | (simp; done) | (simp [*]; done) | (simp; omega), by first | exact HB7.out | exact pw_below_drewN HB7.out _ | exact below_drew1 HB7.out⟩
                           · obtain rfl : r = false := HR.out.trans (by simp [badIs, k2', k6', g1, g2, f4, f7])
                             go_wp2
                             go_ret
                             exact ⟨by first | rfl | (simp; done) | (simp [*]; done) | (simp; omega), by first | exact HB7.out | exact pw_below_drewN HB7.out _ | exact below_drew1 HB7.out⟩
                     · by_cases f9 : bk = 3
                       · subst f9
                         obtain rfl : r = false := HR.out.trans (by simp [badIs, k2', k6', g1, g2])
                         go_wp2
                         go_ret
                         exact ⟨by first | rfl | (simp; done) | (simp [*]; done) | (simp; omega), by first | exact HB7.out | exact pw_below_drewN HB7.out _ | exact below_drew1 HB7.out⟩
                       · by_cases j3 : bk = 4
                         · subst j3
                           obtain rfl : r = false := HR.out.trans (by simp [badIs, k2', k6', g1, g2])
                           go_wp2
                           go_ret
                           exact ⟨by first | rfl | (simp; done) | (simp [*]; done) | (simp; omega), by first | exact HB7.out | exact pw_below_drewN HB7.out _ | exact below_drew1 HB7.out⟩
                         · obtain rfl : r = false := HR.out.trans (by simp [badIs, k2', k6', g1, g2, f1, f3, f9, j3])
                           go_wp2
                           go_ret
                           exact ⟨by first | rfl | (simp; done) | (simp [*]; done) | (simp; omega), by first | exact HB7.out | exact pw_below_drewN HB7.out _ | exact below_drew1 HB7.out⟩
           · obtain rfl : r = false := HR.out.trans (by simp [badIs, k5])
             have k5b : (x2.toList == y2.toList) = false := by rw [ba_list]; exact decide_eq_false k5
             have k5c : (x2.toList != y2.toList) = true := by rw [bne, k5b]; rfl
             refine Fam.wp_region_fam [] (fun m u => Below wy.heap.size wy u) (by kernel_rfl) (by kernel_rfl) (Below.refl wy.heap.size wy).drew ?_
             iterate 8 (refine Fam.pure_ (by rfl) (by rfl) rfl (fun K hK => ?_); go_big_quiet_op; refine hK _ ?_; clear hK K)
             refine Fam.read_ (.int .i64 bi) (by rfl) (by rfl) (fun m' _ u hu => ?_) ?_
             · have hx := (HD4.out.below hu).cell (i := 1) rfl
               clear hu; go_simp
             simp only [Act.put, List.setIfInBounds_toArray, List.set_cons_zero, List.set_cons_succ]
             refine Fam.any_ (.bool false) (by rfl) (by rfl) (fun w => ?_) ?_
             · go_simp
             simp only [Act.put, List.setIfInBounds_toArray, List.set_cons_zero, List.set_cons_succ]
             iterate 3 (refine Fam.pure_ (by rfl) (by rfl) rfl (fun K hK => ?_); go_big_quiet_op; refine hK _ ?_; clear hK K)
             refine Fam.read_ (.int .i64 2) (by rfl) (by rfl) (fun m' _ u hu => ?_) ?_
             · have hx := (HX4.out.below hu).cell (i := 0) rfl
               clear hu; go_simp
             simp only [Act.put, List.setIfInBounds_toArray, List.set_cons_zero, List.set_cons_succ]
             refine Fam.any_ (.bool false) (by rfl) (by rfl) (fun w => ?_) ?_
             · go_simp
             simp only [Act.put, List.setIfInBounds_toArray, List.set_cons_zero, List.set_cons_succ]
             iterate 3 (refine Fam.pure_ (by rfl) (by rfl) rfl (fun K hK => ?_); go_big_quiet_op; refine hK _ ?_; clear hK K)
             refine Fam.read_ (.int .i64 3) (by rfl) (by rfl) (fun m' _ u hu => ?_) ?_
             · have hx := (HYN.out.below hu).cell (i := 0) rfl
               clear hu; go_simp
             simp only [Act.put, List.setIfInBounds_toArray, List.set_cons_zero, List.set_cons_succ]
             refine Fam.any_ (.bool false) (by rfl) (by rfl) (fun w => ?_) ?_
             · go_simp
             simp only [Act.put, List.setIfInBounds_toArray, List.set_cons_zero, List.set_cons_succ]
             iterate 3 (refine Fam.pure_ (by rfl) (by rfl) rfl (fun K hK => ?_); go_big_quiet_op; refine hK _ ?_; clear hK K)
             refine Fam.read_ (.string x2) (by rfl) (by rfl) (fun m' _ u hu => ?_) ?_
             · have hx := (HX4.out.below hu).cell (i := 2) rfl
               clear hu; go_simp
             simp only [Act.put, List.setIfInBounds_toArray, List.set_cons_zero, List.set_cons_succ]
             refine Fam.pure_ (by rfl) (by rfl) rfl (fun K hK => ?_)
             go_big_quiet_op
             refine hK _ ?_
             clear hK K
             refine Fam.read_ (.string y2) (by rfl) (by rfl) (fun m' _ u hu => ?_) ?_
             · have hx := (HYN.out.below hu).cell (i := 2) rfl
               clear hu; go_simp
             simp only [Act.put, List.setIfInBounds_toArray, List.set_cons_zero, List.set_cons_succ]
             refine Fam.any_ (.bool true) (by rfl) (by rfl) (fun w => ?_) ?_
             · go_simp
             simp only [Act.put, List.setIfInBounds_toArray, List.set_cons_zero, List.set_cons_succ]
             iterate 2 (refine Fam.pure_ (by rfl) (by rfl) rfl (fun K hK => ?_); go_big_quiet_op; refine hK _ ?_; clear hK K)
             iterate 7 (refine fam_off (by rfl) (by rfl) ?_; simp only [Act.put, List.setIfInBounds_toArray, List.set_cons_zero, List.set_cons_succ])
             refine Fam.pure_ (by rfl) (by rfl) rfl (fun K hK => ?_)
             go_big_quiet_op
             refine hK _ ?_
             clear hK K
             refine Fam.nil_ ?_
             intro w5 h5
             go_wp2
             go_ret
             exact ⟨by first | rfl | (simp; done) | (simp [*]; done), below_step HB5.out h5⟩
         · obtain rfl : r = false := HR.out.trans (by simp [badIs, k4])
           have k4b : (y0 == 3) = false := beq_eq_false_iff_ne.mpr k4
           have k4c : (y0 != 3) = true := bne_iff_ne.mpr k4
           refine Fam.wp_region_fam [] (fun m u => Below wy.heap.size wy u) (by kernel_rfl) (by kernel_rfl) (Below.refl wy.heap.size wy).drew ?_
           iterate 8 (refine Fam.pure_ (by rfl) (by rfl) rfl (fun K hK => ?_); go_big_quiet_op; refine hK _ ?_; clear hK K)
           refine Fam.read_ (.int .i64 bi) (by rfl) (by rfl) (fun m' _ u hu => ?_) ?_
           · have hx := (HD4.out.below hu).cell (i := 1) rfl
             clear hu; go_simp
           simp only [Act.put, List.setIfInBounds_toArray, List.set_cons_zero, List.set_cons_succ]
           refine Fam.any_ (.bool false) (by rfl) (by rfl) (fun w => ?_) ?_
           · go_simp
           simp only [Act.put, List.setIfInBounds_toArray, List.set_cons_zero, List.set_cons_succ]
           iterate 3 (refine Fam.pure_ (by rfl) (by rfl) rfl (fun K hK => ?_); go_big_quiet_op; refine hK _ ?_; clear hK K)
           refine Fam.read_ (.int .i64 2) (by rfl) (by rfl) (fun m' _ u hu => ?_) ?_
           · have hx := (HX4.out.below hu).cell (i := 0) rfl
             clear hu; go_simp
           simp only [Act.put, List.setIfInBounds_toArray, List.set_cons_zero, List.set_cons_succ]
           refine Fam.any_ (.bool false) (by rfl) (by rfl) (fun w => ?_) ?_
           · go_simp
           simp only [Act.put, List.setIfInBounds_toArray, List.set_cons_zero, List.set_cons_succ]
           iterate 3 (refine Fam.pure_ (by rfl) (by rfl) rfl (fun K hK => ?_); go_big_quiet_op; refine hK _ ?_; clear hK K)
           refine Fam.read_ (.int .i64 y0) (by rfl) (by rfl) (fun m' _ u hu => ?_) ?_
           · have hx := (HYN.out.below hu).cell (i := 0) rfl
             clear hu; go_simp
           simp only [Act.put, List.setIfInBounds_toArray, List.set_cons_zero, List.set_cons_succ]
           refine Fam.any_ (.bool true) (by rfl) (by rfl) (fun w => ?_) ?_
           · go_simp
           simp only [Act.put, List.setIfInBounds_toArray, List.set_cons_zero, List.set_cons_succ]
           iterate 2 (refine Fam.pure_ (by rfl) (by rfl) rfl (fun K hK => ?_); go_big_quiet_op; refine hK _ ?_; clear hK K)
           iterate 5 (refine fam_off (by rfl) (by rfl) ?_; simp only [Act.put, List.setIfInBounds_toArray, List.set_cons_zero, List.set_cons_succ])
           iterate 2 (refine Fam.pure_ (by rfl) (by rfl) rfl (fun K hK => ?_); go_big_quiet_op; refine hK _ ?_; clear hK K)
           iterate 7 (refine fam_off (by rfl) (by rfl) ?_; simp only [Act.put, List.setIfInBounds_toArray, List.set_cons_zero, List.set_cons_succ])
           refine Fam.pure_ (by rfl) (by rfl) rfl (fun K hK => ?_)
           go_big_quiet_op
           refine hK _ ?_
           clear hK K
           refine Fam.nil_ ?_
           intro w5 h5
           go_wp2
           go_ret
           exact ⟨by first | rfl | (simp; done) | (simp [*]; done), below_step HB5.out h5⟩
       · obtain rfl : r = false := HR.out.trans (by simp [badIs, k3])
         have k3b : (x0 == 2) = false := beq_eq_false_iff_ne.mpr k3
         have k3c : (x0 != 2) = true := bne_iff_ne.mpr k3
         refine Fam.wp_region_fam [] (fun m u => Below wy.heap.size wy u) (by kernel_rfl) (by kernel_rfl) (Below.refl wy.heap.size wy).drew ?_
         iterate 8 (refine Fam.pure_ (by rfl) (by rfl) rfl (fun K hK => ?_); go_big_quiet_op; refine hK _ ?_; clear hK K)
         refine Fam.read_ (.int .i64 bi) (by rfl) (by rfl) (fun m' _ u hu => ?_) ?_
         · have hx := (HD4.out.below hu).cell (i := 1) rfl
           clear hu; go_simp
         simp only [Act.put, List.setIfInBounds_toArray, List.set_cons_zero, List.set_cons_succ]
         refine Fam.any_ (.bool false) (by rfl) (by rfl) (fun w => ?_) ?_
         · go_simp
         simp only [Act.put, List.setIfInBounds_toArray, List.set_cons_zero, List.set_cons_succ]
         iterate 3 (refine Fam.pure_ (by rfl) (by rfl) rfl (fun K hK => ?_); go_big_quiet_op; refine hK _ ?_; clear hK K)
         refine Fam.read_ (.int .i64 x0) (by rfl) (by rfl) (fun m' _ u hu => ?_) ?_
         · have hx := (HX4.out.below hu).cell (i := 0) rfl
           clear hu; go_simp
         simp only [Act.put, List.setIfInBounds_toArray, List.set_cons_zero, List.set_cons_succ]
         refine Fam.any_ (.bool true) (by rfl) (by rfl) (fun w => ?_) ?_
         · go_simp
         simp only [Act.put, List.setIfInBounds_toArray, List.set_cons_zero, List.set_cons_succ]
         iterate 2 (refine Fam.pure_ (by rfl) (by rfl) rfl (fun K hK => ?_); go_big_quiet_op; refine hK _ ?_; clear hK K)
         iterate 3 (refine fam_off (by rfl) (by rfl) ?_; simp only [Act.put, List.setIfInBounds_toArray, List.set_cons_zero, List.set_cons_succ])
         iterate 2 (refine Fam.pure_ (by rfl) (by rfl) rfl (fun K hK => ?_); go_big_quiet_op; refine hK _ ?_; clear hK K)
         iterate 5 (refine fam_off (by rfl) (by rfl) ?_; simp only [Act.put, List.setIfInBounds_toArray, List.set_cons_zero, List.set_cons_succ])
         iterate 2 (refine Fam.pure_ (by rfl) (by rfl) rfl (fun K hK => ?_); go_big_quiet_op; refine hK _ ?_; clear hK K)
         iterate 7 (refine fam_off (by rfl) (by rfl) ?_; simp only [Act.put, List.setIfInBounds_toArray, List.set_cons_zero, List.set_cons_succ])
         refine Fam.pure_ (by rfl) (by rfl) rfl (fun K hK => ?_)
         go_big_quiet_op
         refine hK _ ?_
         clear hK K
         refine Fam.nil_ ?_
         intro w5 h5
         go_wp2
         go_ret
         exact ⟨by first | rfl | (simp; done) | (simp [*]; done), below_step HB5.out h5⟩
end Go.Proofs.YtjlpjpjodhkpdaaGreatDoor
