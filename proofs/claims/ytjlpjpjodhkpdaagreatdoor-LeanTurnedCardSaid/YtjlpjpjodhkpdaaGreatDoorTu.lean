/- The law LeanTurned, walked. -/
import Derived.Test.YtjlpjpjodhkpdaaGreatDoorPx
import Derived.Test.YtjlpjpjodhkpdaaGreatDoorRy
import Derived.Test.YtjlpjpjodhkpdaaGreatDoorCk
import Derived.Test.YtjlpjpjodhkpdaaGreatDoorBd
import Derived.Laws.OwnMore
set_option maxHeartbeats 16000000
set_option maxRecDepth 100000
set_option linter.unusedVariables false
set_option linter.unusedSimpArgs false
namespace Go.Proofs.YtjlpjpjodhkpdaaGreatDoor
open Go.RowKit Go.Proofs.YtjlpjpjodhkpdaaGreatDoor.Q Go.Proofs.YtjlpjpjodhkpdaaGreatDoorW.PrintWords
attribute [local go_sem high] eqA53
theorem fam_skip {P : Program} {ops : Array Oper} {C : Nat → World → Prop} {E : List Nat} {Q : Nat → Act → Prop} {k m : Nat} {o : Oper} {rest : List Oper} {a : Act} (hw : Region.wanted o (yielded ops a.tmps) = false) (hp : Fam.posOf E 0 k = none) (h : Fam.wpNat P ops C E Q (k + 1) m rest (a.put o.dst undef)) : Fam.wpNat P ops C E Q k m (o :: rest) a :=
 ⟨undef, .inr ⟨hw, rfl, hp⟩, by unfold Fam.stepM; rw [hp]; exact h⟩
theorem PX.set {w : World} {p p' : Prf} {i : Nat} {u : Value} (hi : i < 6) (hu : ∀ A c, (cellsP p A c).set i u = cellsP p' A c) (h2 : p'.f2 = p.f2) : ∀ {xs : List Prf} {cs : List Value} {k : Nat}, PX w xs cs → xs[k]? = some p → PX w (xs.set k p') (cs.set (k * 6 + i) u)
 | [], cs, k, h, hk => by simp at hk
 | x :: xs, cs, 0, ⟨A, c, cs', e, l, g, h⟩, hk => by
   obtain rfl : x = p := by simpa using hk
   have hl : (cellsP x A c).length = 6 := rfl
   refine ⟨A, c, cs', ?_, by rw [h2]; exact l, by rw [h2]; exact g, h⟩
   rw [e, Nat.zero_mul, Nat.zero_add, List.set_append_left _ _ (by rw [hl]; exact hi), hu]
 | x :: xs, cs, k + 1, ⟨A, c, cs', e, l, g, h⟩, hk => by
   have hl : (cellsP x A c).length = 6 := rfl
   refine ⟨A, c, cs'.set (k * 6 + i) u, ?_, l, g, PX.set hi hu h2 h (by simpa using hk)⟩
   rw [e, List.set_append_right _ _ (by rw [hl]; omega), hl, show (k + 1) * 6 + i - 6 = k * 6 + i by omega]
theorem PX.turn {w : World} {xs : List Prf} {cs : List Value} {k : Nat} {p : Prf} (h : PX w xs cs) (hk : xs[k]? = some p) (x0 x1 : Int) (x2 x3 : ByteArray) :
 PX w (xs.set k ⟨p.f0, ⟨x0, x1, x2, x3⟩, p.f2⟩) ((((cs.set (k * 6 + 1) (.int .i64 x0)).set (k * 6 + 2) (.int .i64 x1)).set (k * 6 + 3) (.string x2)).set (k * 6 + 4) (.string x3)) := by
 have hl : k < xs.length := (List.getElem?_eq_some_iff.1 hk).1
 have s1 := PX.set (p := p) (i := 1) (u := .int .i64 x0) (p' := ⟨p.f0, ⟨x0, p.f1.f1, p.f1.f2, p.f1.f3⟩, p.f2⟩) (by omega) (fun _ _ => rfl) rfl h hk
 have s2 := PX.set (p := ⟨p.f0, ⟨x0, p.f1.f1, p.f1.f2, p.f1.f3⟩, p.f2⟩) (i := 2) (u := .int .i64 x1) (p' := ⟨p.f0, ⟨x0, x1, p.f1.f2, p.f1.f3⟩, p.f2⟩) (by omega) (fun _ _ => rfl) rfl s1 (List.getElem?_set_self hl)
 have s3 := PX.set (p := ⟨p.f0, ⟨x0, x1, p.f1.f2, p.f1.f3⟩, p.f2⟩) (i := 3) (u := .string x2) (p' := ⟨p.f0, ⟨x0, x1, x2, p.f1.f3⟩, p.f2⟩) (by omega) (fun _ _ => rfl) rfl s2 (List.getElem?_set_self (by simpa using hl))
 have s4 := PX.set (p := ⟨p.f0, ⟨x0, x1, x2, p.f1.f3⟩, p.f2⟩) (i := 4) (u := .string x3) (p' := ⟨p.f0, ⟨x0, x1, x2, x3⟩, p.f2⟩) (by omega) (fun _ _ => rfl) rfl s3 (List.getElem?_set_self (by simpa using hl))
 simpa only [List.set_set] using s4
theorem prLoop_mem (root : ByteArray) (count : Int) : ∀ (l : List Prf) (last : Int), prLoop root count last l = true → ∀ p ∈ l, chkP root count p = 0
 | [], _, _, p, hp => by cases hp
 | x :: l, last, h, p, hp => by
   rw [prLoop_cons] at h
   simp only [Bool.and_eq_true, decide_eq_true_eq] at h
   rcases List.mem_cons.1 hp with rfl | hp
   · exact h.2.1
   · exact prLoop_mem root count l _ h.2.2 p hp
theorem proved_at {c : CertD} (h : lnProved c c.root = 0) {p : Prf} (hp : p ∈ c.proofs) : evOk p.f1 ∧ checkR c.root c.count p.f0 (evBytes p.f1) p.f2 = 0 := by
 unfold lnProved at h
 split at h
 · rename_i hc
   rw [if_pos rfl] at h
   split at h
   · rename_i hl
     have hb := hc
     unfold certB at hb
     simp only [Bool.and_eq_true] at hb
     have hq := List.all_eq_true.1 hb.2.2.2 p hp
     unfold prfB at hq
     simp only [Bool.and_eq_true] at hq
     have he := hq.2.1
     rw [evB_eq] at he
     exact ⟨of_decide_eq_true he, prLoop_mem _ _ _ _ hl p hp⟩
   · cases h
 · cases h
theorem evOk_small {e : Evn} (h : evOk e) : (evBytes e).size ≤ 562949953421311 := by
 have := evBytes_size e (by rw [evB_eq]; exact decide_eq_true h)
 omega
theorem checkR_top {root : ByteArray} {n i : Int} {s : ByteArray} {path : List ByteArray} (h : checkR root n i s path = 0) (hs : s.size ≤ 562949953421311) :
 (1 ≤ n ∧ n ≤ 4096 ∧ 0 ≤ i ∧ i < n) ∧ path.length = (TM.wayL 0 n.toNat i.toNat).length ∧ (∀ p ∈ path, p.size = 32) ∧ sumB (rootB n.toNat (sumB (TM.lastB (insB n.toNat i.toNat s path)))) = root := by
 unfold checkR at h
 split at h
 · rename_i h2
   obtain ⟨h3, h4, h5, h6, _, _⟩ := climbR_ok h2 hs
   split at h
   · rename_i h7
     rw [h6, TM.lastB_snoc] at h7
     exact ⟨h3, h4, h5, h7⟩
   · cases h
 · rename_i h2
   exact absurd h h2
theorem turned_facts {c d : CertD} (hc : lnProved c c.root = 0) (hd : lnProved d c.root = 0) (e1 : d.root = c.root) (e2 : d.count = c.count) {p : Prf} {x : Evn} (hp : p ∈ c.proofs) (hx : (⟨p.f0, x, p.f2⟩ : Prf) ∈ d.proofs) (hne : p.f1 ≠ x) :
 ∃ N i : Nat, c.count = N ∧ p.f0 = i ∧ N ≤ 4096 ∧ i < N ∧ p.f2.length = (TM.wayL 0 N i).length ∧ (∀ q ∈ p.f2, q.size = 32) ∧ evOk p.f1 ∧ evOk x ∧ evBytes p.f1 ≠ evBytes x ∧
  sumB (rootB N (sumB (TM.lastB (insB N i (evBytes p.f1) p.f2)))) = sumB (rootB N (sumB (TM.lastB (insB N i (evBytes x) p.f2)))) := by
 rw [← e1] at hd
 obtain ⟨o1, k1⟩ := proved_at hc hp
 obtain ⟨o2, k2⟩ := proved_at hd hx
 dsimp only at o2 k2
 rw [e1, e2] at k2
 obtain ⟨⟨a1, a2, a3, a4⟩, a5, a6, a7⟩ := checkR_top k1 (evOk_small o1)
 obtain ⟨_, _, _, b7⟩ := checkR_top k2 (evOk_small o2)
 exact ⟨c.count.toNat, p.f0.toNat, by omega, by omega, by omega, by omega, a5, a6, o1, o2, fun h => hne (ev_inj o1 o2 h), a7.trans b7.symm⟩
theorem turned_walk (tenant : ByteArray) (seq : Int) (prev root : ByteArray) (count level : Int) (accept : Bool) (A2 : Option Addr) (c2 : Nat) (order : List Int) (bk bi bj : Int) (A6 : Option Addr) (c6 : Nat) (ring : List Edg) (A7 : Option Addr) (c7 : Nat) (proofs : List Prf) (i : Int) (x0 x1 : Int) (x2 x3 : ByteArray) (w : World) (hT : Tabs w) (h2 : Kd.C (Kd.int .i64) w A2 order.length order) (h6 : Kd.C k32 w A6 ring.length ring) (h7 : Kd.C k55 w A7 proofs.length proofs) :
 Calls Tryz.prog 5 #[.agg #[.string tenant, .int .i64 seq, .string prev, .string root, .int .i64 count, .int .i64 level, .bool accept, .slice A2 order.length c2, .int .i64 bk, .int .i64 bi, .int .i64 bj, .slice A6 ring.length c6, .slice A7 proofs.length c7], .int .i64 i, .agg #[.int .i64 x0, .int .i64 x1, .string x2, .string x3]] w fun e w' => e = .returned (.bool true) ∧ Below w.heap.size w w' := by
 have HS := Lib.hid (fun u (hb : Below w.heap.size w u) => shown_any u (hT.below hb hT.size))
 have HB1 := Lib.hid (below_alloc (below_alloc (Below.refl w.heap.size w) (.cells #[.string tenant, .int .i64 seq, .string prev, .string root, .int .i64 count, .int .i64 level, .bool accept, .slice A2 order.length c2, .int .i64 bk, .int .i64 bi, .int .i64 bj, .slice A6 ring.length c6, .slice A7 proofs.length c7] 30)) (.cells #[.int .i64 x0, .int .i64 x1, .string x2, .string x3] 53))
 have HX1 := Lib.hid ((RowIs.new w 30 [.string tenant, .int .i64 seq, .string prev, .string root, .int .i64 count, .int .i64 level, .bool accept, .slice A2 order.length c2, .int .i64 bk, .int .i64 bi, .int .i64 bj, .slice A6 ring.length c6, .slice A7 proofs.length c7]).alloc (.cells #[.int .i64 x0, .int .i64 x1, .string x2, .string x3] 53))
 have he1 := RowIs.new (w.alloc (.cells #[.string tenant, .int .i64 seq, .string prev, .string root, .int .i64 count, .int .i64 level, .bool accept, .slice A2 order.length c2, .int .i64 bk, .int .i64 bi, .int .i64 bj, .slice A6 ring.length c6, .slice A7 proofs.length c7] 30)) 53 [.int .i64 x0, .int .i64 x1, .string x2, .string x3]
 rw [World.size_alloc] at he1
 have HE1 := Lib.hid he1
 clear he1
 obtain ⟨my, hmy⟩ := rmay_some x0 x1 x2 x3
 have HMy := Lib.hid (fun u => cartoucheref06_May.calls 9 x0 x1 x2 x3 my u hmy)
 have H2 := Lib.hid h2; have H6 := Lib.hid h6; have H7 := Lib.hid h7; have HT := Lib.hid hT
 clear hmy h2 h6 h7 hT
 go_enter Tryz.func5, Tryz.ntmps5
 go_wp2_with (go_at_call 9; refine Pause'.out ?_)
 constructor
 refine (HS.out _ HB1.out).mono ?_
 rintro e w2 ⟨rfl, hb⟩
 have HB2 := Lib.hid (below_step HB1.out hb); have hx := HX1.out.below hb; have he := HE1.out.below hb
 have HX2 := Lib.hid hx; have HE2 := Lib.hid he
 have b0 := he.cell (i := 0) rfl; have b1 := he.cell (i := 1) rfl; have b2 := he.cell (i := 2) rfl; have b3 := he.cell (i := 3) rfl
 clear hb hx he HS
 go_wp2_with (go_at_call 29; refine Pause'.out ?_)
 constructor
 refine (HMy.out _).mono ?_
 rintro e w3 ⟨rfl, hb⟩
 clear b0 b1 b2 b3
 have HB3 := Lib.hid (below_step HB2.out hb); have hx := HX2.out.below hb; have he := HE2.out.below hb
 have HX3 := Lib.hid hx; have HE3 := Lib.hid he
 have a0 := hx.cell (i := 0) rfl; have a1 := hx.cell (i := 1) rfl; have a2 := hx.cell (i := 2) rfl; have a3 := hx.cell (i := 3) rfl; have a4 := hx.cell (i := 4) rfl; have a5 := hx.cell (i := 5) rfl; have a6 := hx.cell (i := 6) rfl; have a7 := hx.cell (i := 7) rfl; have a8 := hx.cell (i := 8) rfl; have a9 := hx.cell (i := 9) rfl; have a10 := hx.cell (i := 10) rfl; have a11 := hx.cell (i := 11) rfl; have a12 := hx.cell (i := 12) rfl; have b0 := he.cell (i := 0) rfl; have b1 := he.cell (i := 1) rfl; have b2 := he.cell (i := 2) rfl; have b3 := he.cell (i := 3) rfl
 clear hb hx he HMy HX1 HX2 HE1 HE2 HB1 HB2
 have END := Lib.hid (fun u (h : Below w3.heap.size w3 u) => below_step HB3.out h)
 cases my
 · go_wp2
   go_quiet (fail)
   go_wp2
   go_ret
   exact ⟨rfl, pw_below_drewN HB3.out _⟩
 by_cases g1 : (60 : Int) < (proofs.length : Int)
 · go_wp2
   go_quiet (fail)
   go_wp2
   go_ret
   exact ⟨rfl, pw_below_drewN HB3.out _⟩
 have d1 : decide ((60 : Int) < (proofs.length : Int)) = false := decide_eq_false g1
 have d1' : decide (60 < proofs.length) = false := decide_eq_false (by omega)
 by_cases g2 : i < 0
 · go_wp2
   go_quiet (fail)
   go_wp2
   go_ret
   exact ⟨rfl, pw_below_drewN HB3.out _⟩
 have d2 : decide (i < 0) = false := decide_eq_false g2
 by_cases g3 : (proofs.length : Int) ≤ i
 · go_wp2
   go_quiet (fail)
   go_wp2
   go_ret
   exact ⟨rfl, pw_below_drewN HB3.out _⟩
 obtain ⟨k, rfl⟩ := Int.eq_ofNat_of_zero_le (show 0 ≤ i by omega)
 have hk : k < proofs.length := by omega
 have hl60 : proofs.length ≤ 60 := by omega
 obtain ⟨ad, A5, c5, hA7, z0, z1, z2, z3, z4, z5, l5, C5⟩ := at_T55 H7.out (k : Int) (by omega) (by omega)
 simp only [Int.toNat_natCast] at z0 z1 z2 z3 z4 z5
 subst hA7
 have HPm := Lib.hid (rdP_mem proofs k hk)
 have HPg := Lib.hid (show proofs[k]? = some (rd_T55 proofs (k : Int)) by rw [rdT_nat, List.getD_eq_getElem?_getD, List.getElem?_eq_getElem hk]; rfl)
 generalize rd_T55 proofs (k : Int) = p at *
 obtain ⟨pi, ⟨y0, y1, y2, y3⟩, pp⟩ := p
 dsimp only at *
 have HL5 := Lib.hid l5; have HC5 := Lib.hid C5
 clear l5 C5
 have HCK := Lib.hid (fun u (hb : Below w.heap.size w u) => lnCheck_any tenant seq prev root count level accept A2 c2 order bk bi bj A6 c6 ring (some ad) c7 proofs root (lnBad proofs bk bi bj) u (HT.out.below hb HT.out.size) (Kd.C_below H2.out hb) (Kd.C_below H6.out hb) (Kd.C_below H7.out hb) (fun _ v hv => lnBad_any (some ad) c7 proofs bk bi bj v (Kd.C_below (Kd.C_below H7.out hb) hv) (by omega)))
 have HOK := Lib.hid (show checkV (lnProved ⟨tenant, seq, prev, root, count, level, accept, order, bk, bi, bj, ring, proofs⟩ root) accept order.length bk ring.length (lnBad proofs bk bi bj) (lnRound level proofs ring) = 0 → lnProved ⟨tenant, seq, prev, root, count, level, accept, order, bk, bi, bj, ring, proofs⟩ root = 0 from fun h => by
  unfold checkV at h
  split at h
  · assumption
  · exact h)
 have hcv : checkV (lnProved ⟨tenant, seq, prev, root, count, level, accept, order, bk, bi, bj, ring, proofs⟩ root) accept order.length bk ring.length (lnBad proofs bk bi bj) (lnRound level proofs ring) = 0 ∨ checkV (lnProved ⟨tenant, seq, prev, root, count, level, accept, order, bk, bi, bj, ring, proofs⟩ root) accept order.length bk ring.length (lnBad proofs bk bi bj) (lnRound level proofs ring) = 1 ∨ checkV (lnProved ⟨tenant, seq, prev, root, count, level, accept, order, bk, bi, bj, ring, proofs⟩ root) accept order.length bk ring.length (lnBad proofs bk bi bj) (lnRound level proofs ring) = 9 ∨ checkV (lnProved ⟨tenant, seq, prev, root, count, level, accept, order, bk, bi, bj, ring, proofs⟩ root) accept order.length bk ring.length (lnBad proofs bk bi bj) (lnRound level proofs ring) = 13 ∨ checkV (lnProved ⟨tenant, seq, prev, root, count, level, accept, order, bk, bi, bj, ring, proofs⟩ root) accept order.length bk ring.length (lnBad proofs bk bi bj) (lnRound level proofs ring) = 14 := by
  unfold checkV lnProved
  dsimp only
  repeat' split
  all_goals simp
 generalize checkV (lnProved ⟨tenant, seq, prev, root, count, level, accept, order, bk, bi, bj, ring, proofs⟩ root) accept order.length bk ring.length (lnBad proofs bk bi bj) (lnRound level proofs ring) = ck at *
 have g4 : decide ((proofs.length : Int) ≤ (k : Int)) = false := decide_eq_false g3
 have g5 : decide (proofs.length ≤ k) = false := decide_eq_false (by omega)
 clear d2
 have g6 : decide ((k : Int) < 0) = false := decide_eq_false g2
 have HXf := Lib.hid (fun u (hb : Below w3.heap.size w3 u) => HX3.out.below hb)
 have HEf := Lib.hid (fun u (hb : Below w3.heap.size w3 u) => HE3.out.below hb)
 have HZf := Lib.hid (fun u (hb : Below w3.heap.size w3 u) => And.intro (pw_cell_below (below_step HB3.out hb) z1) (And.intro (pw_cell_below (below_step HB3.out hb) z2) (And.intro (pw_cell_below (below_step HB3.out hb) z3) (pw_cell_below (below_step HB3.out hb) z4))))
 have HZw := Lib.hid (fun u (hb : Below w.heap.size w u) => And.intro (pw_cell_below hb z0) (And.intro (pw_cell_below hb z1) (And.intro (pw_cell_below hb z2) (And.intro (pw_cell_below hb z3) (And.intro (pw_cell_below hb z4) (pw_cell_below hb z5))))))
 clear z0 z1 z2 z3 z4 z5
 clear a0 a1 a2 a3 a4 a5 a6 a7 a8 a9 a10 a11 a12 b0 b1 b2 b3
 have HB0 := Lib.hid (below_drew1 (Below.refl w3.heap.size w3))
 by_cases hck : ck = 0
 · subst hck
   have hpv := Lib.hid (HOK.out rfl)
   clear HOK hcv
   obtain ⟨bb, hbb⟩ : ∃ bb, bb = (y0 == x0 && (y1 == x1 && (y2.toList == x2.toList && (y3.toList == x3.toList)))) := ⟨_, rfl⟩
   have HBB := Lib.hid hbb
   clear hbb
   go_wp2
   refine Fam.wp_region_fam [27] (fun m u => Below w3.heap.size w3 u) (by kernel_rfl) (by kernel_rfl) HB0.out ?_
   iterate 8 (refine Fam.pure_ (by rfl) (by rfl) rfl (fun K hK => ?_); go_big_quiet_op; refine hK _ ?_; clear hK K)
   refine Fam.read_ (.slice (some ad) proofs.length c7) (by rfl) (by rfl) (fun m' _ u hu => ?_) ?_
   · have hx := (HXf.out u hu).cell (i := 12) rfl
     clear hu
     go_simp
   simp only [Act.put, List.setIfInBounds_toArray, List.set_cons_zero, List.set_cons_succ]
   refine Fam.any_ (.int .i64 (proofs.length : Int)) (by rfl) (by rfl) (fun w => ?_) ?_
   · go_simp
   simp only [Act.put, List.setIfInBounds_toArray, List.set_cons_zero, List.set_cons_succ]
   iterate 3 (refine Fam.pure_ (by rfl) (by rfl) rfl (fun K hK => ?_); go_big_quiet_op; refine hK _ ?_; clear hK K)
   iterate 4 (refine Fam.pure_ (by rfl) (by rfl) rfl (fun K hK => ?_); go_big_quiet_op; refine hK _ ?_; clear hK K)
   iterate 2 (refine Fam.pure_ (by rfl) (by rfl) rfl (fun K hK => ?_); go_big_quiet_op; refine hK _ ?_; clear hK K)
   refine Fam.read_ (.slice (some ad) proofs.length c7) (by rfl) (by rfl) (fun m' _ u hu => ?_) ?_
   · have hx := (HXf.out u hu).cell (i := 12) rfl
     clear hu
     go_simp
   simp only [Act.put, List.setIfInBounds_toArray, List.set_cons_zero, List.set_cons_succ]
   refine Fam.any_ (.int .i64 (proofs.length : Int)) (by rfl) (by rfl) (fun w => ?_) ?_
   · go_simp
   simp only [Act.put, List.setIfInBounds_toArray, List.set_cons_zero, List.set_cons_succ]
   iterate 3 (refine Fam.pure_ (by rfl) (by rfl) rfl (fun K hK => ?_); go_big_quiet_op; refine hK _ ?_; clear hK K)
   refine Fam.read_ (.agg #[.string tenant, .int .i64 seq, .string prev, .string root, .int .i64 count, .int .i64 level, .bool accept, .slice A2 order.length c2, .int .i64 bk, .int .i64 bi, .int .i64 bj, .slice A6 ring.length c6, .slice (some ad) proofs.length c7]) (by rfl) (by rfl) (fun m' _ u hu => ?_) ?_
   · have hx := HXf.out u hu; have a0 := hx.cell (i := 0) rfl; have a1 := hx.cell (i := 1) rfl; have a2 := hx.cell (i := 2) rfl; have a3 := hx.cell (i := 3) rfl; have a4 := hx.cell (i := 4) rfl; have a5 := hx.cell (i := 5) rfl; have a6 := hx.cell (i := 6) rfl; have a7 := hx.cell (i := 7) rfl; have a8 := hx.cell (i := 8) rfl; have a9 := hx.cell (i := 9) rfl; have a10 := hx.cell (i := 10) rfl; have a11 := hx.cell (i := 11) rfl; have a12 := hx.cell (i := 12) rfl
     clear hu
     go_simp
   simp only [Act.put, List.setIfInBounds_toArray, List.set_cons_zero, List.set_cons_succ]
   (refine Fam.pure_ (by rfl) (by rfl) rfl (fun K hK => ?_); go_big_quiet_op; refine hK _ ?_; clear hK K)
   refine Fam.read_ (.string root) (by rfl) (by rfl) (fun m' _ u hu => ?_) ?_
   · have hx := (HXf.out u hu).cell (i := 3) rfl
     clear hu
     go_simp
   simp only [Act.put, List.setIfInBounds_toArray, List.set_cons_zero, List.set_cons_succ]
   refine Fam.effCall_ (.int .i64 0) 12 ?_ (by rfl) (by rfl) (fun w => ?_) (fun u hu => ?_) ?_
   rotate_left
   · go_simp; rfl
   · exact (HCK.out u (below_step HB3.out hu)).mono fun e u' ⟨he, hb⟩ => ⟨he, hu.trans (hb.mono hu.size)⟩
   simp only [Act.put, List.setIfInBounds_toArray, List.set_cons_zero, List.set_cons_succ]
   iterate 3 (refine Fam.pure_ (by rfl) (by rfl) rfl (fun K hK => ?_); go_big_quiet_op; refine hK _ ?_; clear hK K)
   (refine Fam.pure_ (by rfl) (by rfl) rfl (fun K hK => ?_); go_big_quiet_op; refine hK _ ?_; clear hK K)
   refine Fam.read_ (.slice (some ad) proofs.length c7) (by rfl) (by rfl) (fun m' _ u hu => ?_) ?_
   · have hx := (HXf.out u hu).cell (i := 12) rfl
     clear hu
     go_simp
   simp only [Act.put, List.setIfInBounds_toArray, List.set_cons_zero, List.set_cons_succ]
   iterate 3 (refine Fam.pure_ (by rfl) (by rfl) rfl (fun K hK => ?_); go_big_quiet_op; refine hK _ ?_; clear hK K)
   refine Fam.read_ (.agg #[.int .i64 y0, .int .i64 y1, .string y2, .string y3]) (by rfl) (by rfl) (fun m' _ u hu => ?_) ?_
   · obtain ⟨z1', z2', z3', z4'⟩ := HZf.out u hu
     clear hu
     go_simp
   simp only [Act.put, List.setIfInBounds_toArray, List.set_cons_zero, List.set_cons_succ]
   refine Fam.read_ (.agg #[.int .i64 x0, .int .i64 x1, .string x2, .string x3]) (by rfl) (by rfl) (fun m' _ u hu => ?_) ?_
   · have hx := HEf.out u hu; have b0 := hx.cell (i := 0) rfl; have b1 := hx.cell (i := 1) rfl; have b2 := hx.cell (i := 2) rfl; have b3 := hx.cell (i := 3) rfl
     clear hu
     go_simp
   simp only [Act.put, List.setIfInBounds_toArray, List.set_cons_zero, List.set_cons_succ]
   refine Fam.any_ (.bool bb) (by rfl) (by rfl) (fun w => ?_) ?_
   · rw [HBB.out]; go_simp
   simp only [Act.put, List.setIfInBounds_toArray, List.set_cons_zero, List.set_cons_succ]
   (refine Fam.pure_ (by rfl) (by rfl) rfl (fun K hK => ?_); go_big_quiet_op; refine hK _ ?_; clear hK K)
   refine Fam.nil_ ?_
   intro w4 h4
   have HB4 := Lib.hid (below_step HB3.out h4)
   have hx := HXf.out w4 h4; have he := HEf.out w4 h4; obtain ⟨z1', z2', z3', z4'⟩ := HZf.out w4 h4
   have HX4 := Lib.hid hx; have HE4 := Lib.hid he
   have a0 := hx.cell (i := 0) rfl; have a1 := hx.cell (i := 1) rfl; have a2 := hx.cell (i := 2) rfl; have a3 := hx.cell (i := 3) rfl; have a4 := hx.cell (i := 4) rfl; have a5 := hx.cell (i := 5) rfl; have a6 := hx.cell (i := 6) rfl; have a7 := hx.cell (i := 7) rfl; have a8 := hx.cell (i := 8) rfl; have a9 := hx.cell (i := 9) rfl; have a10 := hx.cell (i := 10) rfl; have a11 := hx.cell (i := 11) rfl; have a12 := hx.cell (i := 12) rfl; have b0 := he.cell (i := 0) rfl; have b1 := he.cell (i := 1) rfl; have b2 := he.cell (i := 2) rfl; have b3 := he.cell (i := 3) rfl
   clear hx he HXf HEf HZf HB0 HCK
   cases bb
   rotate_left
   · go_wp2
     go_ret
     exact ⟨rfl, HB4.out⟩
   have HNE := Lib.hid (show (⟨y0, y1, y2, y3⟩ : Evn) ≠ ⟨x0, x1, x2, x3⟩ from fun h => by
    have h2 := HBB.out
    injection h with e1 e2 e3 e4
    subst e1 e2 e3 e4
    simp only [beq_self_eq_true, Bool.and_self] at h2
    cases h2)
   clear HBB
   obtain ⟨v5, w5, cs, hr, hpx, hown, hgr⟩ := less_first (cL := c7) H7.out hl60 (below_alloc HB4.out (.cells #[.string tenant, .int .i64 seq, .string prev, .string root, .int .i64 count, .int .i64 level, .bool accept, .slice A2 order.length c2, .int .i64 bk, .int .i64 bi, .int .i64 bj, .slice A6 ring.length c6, .slice (some ad) proofs.length c7] 30))
   obtain ⟨n, hn⟩ : ∃ n, proofs.length = n + 1 := ⟨proofs.length - 1, by omega⟩
   obtain ⟨g, cap, rfl⟩ : ∃ g cap, v5 = .slice (some ⟨g, 0, none⟩) proofs.length cap := by rw [hn] at hown ⊢; exact ownsRow_succ hown
   have hsz : (w4.alloc (.cells #[.string tenant, .int .i64 seq, .string prev, .string root, .int .i64 count, .int .i64 level, .bool accept, .slice A2 order.length c2, .int .i64 bk, .int .i64 bi, .int .i64 bj, .slice A6 ring.length c6, .slice (some ad) proofs.length c7] 30)).heap.size = w4.heap.size + 1 := World.size_alloc _ _
   have HRN := Lib.hid hr
   rw [hsz] at HRN hgr
   have hd5 : RowIs w5 w4.heap.size 30 [.string tenant, .int .i64 seq, .string prev, .string root, .int .i64 count, .int .i64 level, .bool accept, .slice A2 order.length c2, .int .i64 bk, .int .i64 bi, .int .i64 bj, .slice A6 ring.length c6, .slice (some ad) proofs.length c7] := ((RowIs.new w4 30 [.string tenant, .int .i64 seq, .string prev, .string root, .int .i64 count, .int .i64 level, .bool accept, .slice A2 order.length c2, .int .i64 bk, .int .i64 bi, .int .i64 bj, .slice A6 ring.length c6, .slice (some ad) proofs.length c7]).alloc _).grown hgr (fun e => by have := Option.some.inj e; omega)
   have hx5 := ((HX4.out.alloc (.cells #[.string tenant, .int .i64 seq, .string prev, .string root, .int .i64 count, .int .i64 level, .bool accept, .slice A2 order.length c2, .int .i64 bk, .int .i64 bi, .int .i64 bj, .slice A6 ring.length c6, .slice (some ad) proofs.length c7] 30)).alloc (.cells #[] 55)).grown hgr (fun e => by have := Option.some.inj e; have := HX4.out.lt; omega)
   have he5 := ((HE4.out.alloc (.cells #[.string tenant, .int .i64 seq, .string prev, .string root, .int .i64 count, .int .i64 level, .bool accept, .slice A2 order.length c2, .int .i64 bk, .int .i64 bi, .int .i64 bj, .slice A6 ring.length c6, .slice (some ad) proofs.length c7] 30)).alloc (.cells #[] 55)).grown hgr (fun e => by have := Option.some.inj e; have := HE4.out.lt; omega)
   have HB5 := Lib.hid ((below_alloc (below_alloc HB4.out (.cells #[.string tenant, .int .i64 seq, .string prev, .string root, .int .i64 count, .int .i64 level, .bool accept, .slice A2 order.length c2, .int .i64 bk, .int .i64 bi, .int .i64 bj, .slice A6 ring.length c6, .slice (some ad) proofs.length c7] 30)) (.cells #[] 55)).grown hgr (by have := HB4.out.size; simp; omega) (fun k hk => by have := HB4.out.size; have := Option.some.inj hk; omega))
   have HD5 := Lib.hid hd5; have HX5 := Lib.hid hx5; have HE5 := Lib.hid he5; have HO5 := Lib.hid hown; have HPX := Lib.hid hpx
   have mm0 := hx5.cell (i := 0) rfl; have mm1 := hx5.cell (i := 1) rfl; have mm2 := hx5.cell (i := 2) rfl; have mm3 := hx5.cell (i := 3) rfl; have mm4 := hx5.cell (i := 4) rfl; have mm5 := hx5.cell (i := 5) rfl; have mm6 := hx5.cell (i := 6) rfl; have mm7 := hx5.cell (i := 7) rfl; have mm8 := hx5.cell (i := 8) rfl; have mm9 := hx5.cell (i := 9) rfl; have mm10 := hx5.cell (i := 10) rfl; have mm11 := hx5.cell (i := 11) rfl; have mm12 := hx5.cell (i := 12) rfl; have dd0 := hd5.cell (i := 0) rfl; have dd1 := hd5.cell (i := 1) rfl; have dd2 := hd5.cell (i := 2) rfl; have dd3 := hd5.cell (i := 3) rfl; have dd4 := hd5.cell (i := 4) rfl; have dd5 := hd5.cell (i := 5) rfl; have dd6 := hd5.cell (i := 6) rfl; have dd7 := hd5.cell (i := 7) rfl; have dd8 := hd5.cell (i := 8) rfl; have dd9 := hd5.cell (i := 9) rfl; have dd10 := hd5.cell (i := 10) rfl; have dd11 := hd5.cell (i := 11) rfl; have dd12 := hd5.cell (i := 12) rfl; have ee0 := he5.cell (i := 0) rfl; have ee1 := he5.cell (i := 1) rfl; have ee2 := he5.cell (i := 2) rfl; have ee3 := he5.cell (i := 3) rfl
   have df := hd5.frozen 12
   have hgb : w4.heap.size + 1 ≤ g ∨ True := .inr trivial
   have hr0 := fun j (hj : j < proofs.length * 6) => hown.cellAt j hj
   have hf0 := fun j => hown.frozenAt j
   have hne1 : g ≠ w4.heap.size := fun e => (Pre.of_row hd5).ne_row hown (by decide) (by rw [e]; rfl)
   have hne2 : g ≠ w.heap.size := fun e => (Pre.of_row hx5).ne_row hown (by decide) (by rw [e]; rfl)
   have hne3 : g ≠ w.heap.size + 1 := fun e => (Pre.of_row he5).ne_row hown (by decide) (by rw [e]; rfl)
   have hgl : w.heap.size ≤ g := row_low hown g rfl
   have hne4 : w4.heap.size ≠ w.heap.size := by have := HX4.out.lt; omega
   have hne6 : w4.heap.size + 1 ≠ w.heap.size := by have := HX4.out.lt; omega
   have hlt6 : w.heap.size < w4.heap.size := HX4.out.lt
   have hne5 : w4.heap.size ≠ w.heap.size + 1 := by have := HE4.out.lt; omega
   obtain ⟨q1, hq1⟩ : ∃ u, cs[k * 6 + 1]? = some u := ⟨_, List.getElem?_eq_getElem (by have := hpx.len; omega)⟩
   obtain ⟨q2, hq2⟩ : ∃ u, cs[k * 6 + 2]? = some u := ⟨_, List.getElem?_eq_getElem (by have := hpx.len; omega)⟩
   obtain ⟨q3, hq3⟩ : ∃ u, cs[k * 6 + 3]? = some u := ⟨_, List.getElem?_eq_getElem (by have := hpx.len; omega)⟩
   obtain ⟨q4, hq4⟩ : ∃ u, cs[k * 6 + 4]? = some u := ⟨_, List.getElem?_eq_getElem (by have := hpx.len; omega)⟩
   have r1 := (hr0 (k * 6 + 1) (by omega)).trans hq1; have r2 := (hr0 (k * 6 + 2) (by omega)).trans hq2; have r3 := (hr0 (k * 6 + 3) (by omega)).trans hq3; have r4 := (hr0 (k * 6 + 4) (by omega)).trans hq4
   have f1 := hf0 (k * 6 + 1); have f2 := hf0 (k * 6 + 2); have f3 := hf0 (k * 6 + 3); have f4 := hf0 (k * 6 + 4)
   clear hn hr0 hf0 hq1 hq2 hq3 hq4 hd5 hx5 he5 hpx hown hgr hr hgb hsz
   obtain ⟨w6, hw6⟩ : ∃ w6, w6 = ((((w5.setCell ⟨w4.heap.size, 12, none⟩ (.slice (some ⟨g, 0, none⟩) proofs.length cap)).setCell ⟨g, k * 6 + 1, none⟩ (.int .i64 x0)).setCell ⟨g, k * 6 + 1 + 1, none⟩ (.int .i64 x1)).setCell ⟨g, k * 6 + 1 + 2, none⟩ (.string x2)).setCell ⟨g, k * 6 + 1 + 3, none⟩ (.string x3) := ⟨_, rfl⟩
   have hb6 : Below w.heap.size w w6 := by
    rw [hw6]
    exact ((((HB5.out.setCell (show w.heap.size ≤ w4.heap.size by omega) _).setCell hgl _).setCell hgl _).setCell hgl _).setCell hgl _
   have hx6 : RowIs w6 w.heap.size 30 [.string tenant, .int .i64 seq, .string prev, .string root, .int .i64 count, .int .i64 level, .bool accept, .slice A2 order.length c2, .int .i64 bk, .int .i64 bi, .int .i64 bj, .slice A6 ring.length c6, .slice (some ad) proofs.length c7] := by
    rw [hw6]
    exact ((((HX5.out.other hne4.symm _).other hne2.symm _).other hne2.symm _).other hne2.symm _).other hne2.symm _
   have he6 : RowIs w6 (w.heap.size + 1) 53 [.int .i64 x0, .int .i64 x1, .string x2, .string x3] := by
    rw [hw6]
    exact ((((HE5.out.other hne5.symm _).other hne3.symm _).other hne3.symm _).other hne3.symm _).other hne3.symm _
   have ho6 : w6.ownsRow w.heap.size 55 6 (.slice (some ⟨g, 0, none⟩) proofs.length cap) proofs.length ((((cs.set (k * 6 + 1) (.int .i64 x0)).set (k * 6 + 2) (.int .i64 x1)).set (k * 6 + 3) (.string x2)).set (k * 6 + 4) (.string x3)) := by
    rw [hw6]
    have s0 := own_setCell HO5.out (p := ⟨w4.heap.size, 12, none⟩) (fun e => hne1 (Option.some.inj e).symm) (.slice (some ⟨g, 0, none⟩) proofs.length cap)
    exact ((((s0.stored _ _).1.stored _ _).1.stored _ _).1.stored _ _).1
   have hpx6 := PX.turn HPX.out HPg.out x0 x1 x2 x3
   dsimp only at hpx6
   have hRl : (proofs.set k (⟨pi, ⟨x0, x1, x2, x3⟩, pp⟩ : Prf)).length = proofs.length := List.length_set
   have hRm := List.mem_of_getElem? (List.getElem?_set_self (a := (⟨pi, ⟨x0, x1, x2, x3⟩, pp⟩ : Prf)) hk)
   have hK6 := hpx6.C (fun j u hu => (Pre.of_own ho6).cell hu) hb6 (by rw [hRl]; omega)
   generalize proofs.set k (⟨pi, ⟨x0, x1, x2, x3⟩, pp⟩ : Prf) = R at *
   have HPV := Lib.hid (lnProved_any tenant seq prev root count level accept A2 c2 order bk bi bj A6 c6 ring (some ⟨g, 0, none⟩) cap R root w6 (HT.out.below hb6 HT.out.size) (Kd.C_below H2.out hb6) (Kd.C_below H6.out hb6) hK6)
   rw [hRl] at HPV
   have HB6 := Lib.hid hb6; have HX6 := Lib.hid hx6; have HE6 := Lib.hid he6; have HW6 := Lib.hid hw6; have HRM := Lib.hid hRm
   clear hb6 hx6 he6 ho6 hpx6 hK6 hw6 hRl hRm H2 H6 HT
   go_wp2_with (first
    | (at_builtin; refine wpList_run rfl _ _ 28 rfl rfl rfl HRN.out ?_)
    | (go_at_call 10; refine Pause'.out ?_))
   rw [← HW6.out]
   constructor
   refine HPV.out.mono ?_
   rintro e w7 ⟨rfl, hb⟩
   have HB7 := Lib.hid (below_step HB6.out hb); have hx := HX6.out.below hb; have he := HE6.out.below hb
   have HX7 := Lib.hid hx; have HE7 := Lib.hid he
   clear mm0 mm1 mm2 mm3 mm4 mm5 mm6 mm7 mm8 mm9 mm10 mm11 mm12 dd0 dd1 dd2 dd3 dd4 dd5 dd6 dd7 dd8 dd9 dd10 dd11 dd12 ee0 ee1 ee2 ee3 df r1 r2 r3 r4 f1 f2 f3 f4 a0 a1 a2 a3 a4 a5 a6 a7 a8 a9 a10 a11 a12 b0 b1 b2 b3 z1' z2' z3' z4' hb HPV HW6 HX6 HE6 HB6 HX5 HE5 HB5 HO5 HPX HD5 HRN HX4 HE4 HB4 hx he
   by_cases hp2 : lnProved ⟨tenant, seq, prev, root, count, level, accept, order, bk, bi, bj, ring, R⟩ root = 0
   rotate_left
   · generalize lnProved ⟨tenant, seq, prev, root, count, level, accept, order, bk, bi, bj, ring, R⟩ root = pv at *
     have hq1 : (pv != 0) = true := bne_iff_ne.mpr hp2
     have hq2 : (pv == 0) = false := beq_eq_false_iff_ne.mpr hp2
     go_wp2
     go_ret
     exact ⟨rfl, HB7.out⟩
   rw [hp2]
   obtain ⟨N, i', hN, hi', n1, n2, n3, n4, o1, o2, hne, hh⟩ := turned_facts (c := ⟨tenant, seq, prev, root, count, level, accept, order, bk, bi, bj, ring, proofs⟩) (d := ⟨tenant, seq, prev, root, count, level, accept, order, bk, bi, bj, ring, R⟩) (p := ⟨pi, ⟨y0, y1, y2, y3⟩, pp⟩) (x := ⟨x0, x1, x2, x3⟩) hpv.out hp2 rfl rfl HPm.out HRM.out HNE.out
   dsimp only at hN hi' n3 n4 o1 hne hh
   obtain ⟨cx, cy, t1, t2, t3, t4, hcl⟩ := rclash_any N i' _ _ pp n1 n2 (evOk_small o1) (evOk_small o2) hne n3 n4 hh
   have HY1 := Lib.hid (fun u => cartoucheref06_Bytes.calls 9 y0 y1 y2 y3 _ _ u (rbytes_ok ⟨y0, y1, y2, y3⟩ o1))
   have HY2 := Lib.hid (fun u => cartoucheref06_Bytes.calls 9 x0 x1 x2 x3 _ _ u (rbytes_ok ⟨x0, x1, x2, x3⟩ o2))
   have HCl := Lib.hid (fun u (hb : Below w.heap.size w u) => hcl A5 c5 u (Kd.C_below HC5.out hb) HL5.out)
   have HS1 := Lib.hid (fun u => rsum_any cx t3 u)
   have HS2 := Lib.hid (fun u => rsum_any cy t4 u)
   rw [t2] at HS1
   generalize sumB cy = sm at *
   generalize evBytes ⟨y0, y1, y2, y3⟩ = s1 at *
   generalize evBytes ⟨x0, x1, x2, x3⟩ = s2 at *
   have u1 := ba_list_ne t1
   have u2 : (cx.toList == cy.toList) = false := by rw [ba_list]; exact decide_eq_false t1
   have HU := Lib.hid (And.intro u1 u2)
   have HC := Lib.hid (And.intro hN hi')
   clear u1 u2 t1 t2 t3 t4 hcl hne hh o1 o2 n1 n2 n3 n4 hp2 hpv HPm HRM HNE HPg HL5 HC5 H7 hN hi'
   have hx := HX7.out; have k12 := hx.cell (i := 12) rfl
   obtain ⟨z0', z1', z2', z3', z4', z5'⟩ := HZw.out w7 HB7.out
   clear hx
   go_wp2_with (go_at_call 23; refine Pause'.out ?_)
   constructor
   refine (HY1.out _).mono ?_
   rintro e w8 ⟨rfl, hb⟩
   have HB8 := Lib.hid (below_step HB7.out hb); have HX8 := Lib.hid (HX7.out.below hb); have HE8 := Lib.hid (HE7.out.below hb)
   have he := HE8.out; have l0 := he.cell (i := 0) rfl; have l1 := he.cell (i := 1) rfl; have l2 := he.cell (i := 2) rfl; have l3 := he.cell (i := 3) rfl
   clear k12 z0' z1' z2' z3' z4' z5' hb HX7 HE7 HB7 HY1 he
   go_wp2_with (go_at_call 23; refine Pause'.out ?_)
   constructor
   refine (HY2.out _).mono ?_
   rintro e w9 ⟨rfl, hb⟩
   have HB9 := Lib.hid (below_step HB8.out hb); have HX9 := Lib.hid (HX8.out.below hb)
   clear l0 l1 l2 l3 hb HX8 HE8 HB8 HY2
   go_wp2
   obtain ⟨hN, hi'⟩ := HC.out
   subst hN hi'
   clear HC
   have HB0 := Lib.hid (below_drew1 (Below.refl w9.heap.size w9))
   refine Fam.wp_region_fam [22] (fun m u => Below w9.heap.size w9 u) (by kernel_rfl) (by kernel_rfl) HB0.out ?_
   (refine Fam.pure_ (by rfl) (by rfl) rfl (fun K hK => ?_); go_big_quiet_op; refine hK _ ?_; clear hK K)
   refine Fam.read_ (.int .i64 (N : Int)) (by rfl) (by rfl) (fun m' _ u hu => ?_) ?_
   · have hx := (HX9.out.below hu).cell (i := 4) rfl
     clear hu
     go_simp
   simp only [Act.put, List.setIfInBounds_toArray, List.set_cons_zero, List.set_cons_succ]
   (refine Fam.pure_ (by rfl) (by rfl) rfl (fun K hK => ?_); go_big_quiet_op; refine hK _ ?_; clear hK K)
   refine Fam.read_ (.slice (some ad) proofs.length c7) (by rfl) (by rfl) (fun m' _ u hu => ?_) ?_
   · have hx := (HX9.out.below hu).cell (i := 12) rfl
     clear hu
     go_simp
   simp only [Act.put, List.setIfInBounds_toArray, List.set_cons_zero, List.set_cons_succ]
   iterate 3 (refine Fam.pure_ (by rfl) (by rfl) rfl (fun K hK => ?_); go_big_quiet_op; refine hK _ ?_; clear hK K)
   refine Fam.read_ (.int .i64 (i' : Int)) (by rfl) (by rfl) (fun m' _ u hu => ?_) ?_
   · obtain ⟨z0', z1', z2', z3', z4', z5'⟩ := HZw.out u (below_step HB9.out hu)
     clear hu
     go_simp
   simp only [Act.put, List.setIfInBounds_toArray, List.set_cons_zero, List.set_cons_succ]
   iterate 2 (refine Fam.pure_ (by rfl) (by rfl) rfl (fun K hK => ?_); go_big_quiet_op; refine hK _ ?_; clear hK K)
   refine Fam.read_ (.slice (some ad) proofs.length c7) (by rfl) (by rfl) (fun m' _ u hu => ?_) ?_
   · have hx := (HX9.out.below hu).cell (i := 12) rfl
     clear hu
     go_simp
   simp only [Act.put, List.setIfInBounds_toArray, List.set_cons_zero, List.set_cons_succ]
   iterate 3 (refine Fam.pure_ (by rfl) (by rfl) rfl (fun K hK => ?_); go_big_quiet_op; refine hK _ ?_; clear hK K)
   refine Fam.read_ (.slice A5 pp.length c5) (by rfl) (by rfl) (fun m' _ u hu => ?_) ?_
   · obtain ⟨z0', z1', z2', z3', z4', z5'⟩ := HZw.out u (below_step HB9.out hu)
     clear hu
     go_simp
   simp only [Act.put, List.setIfInBounds_toArray, List.set_cons_zero, List.set_cons_succ]
   iterate 2 (refine Fam.pure_ (by rfl) (by rfl) rfl (fun K hK => ?_); go_big_quiet_op; refine hK _ ?_; clear hK K)
   refine Fam.read_ (.slice (some ad) proofs.length c7) (by rfl) (by rfl) (fun m' _ u hu => ?_) ?_
   · have hx := (HX9.out.below hu).cell (i := 12) rfl
     clear hu
     go_simp
   simp only [Act.put, List.setIfInBounds_toArray, List.set_cons_zero, List.set_cons_succ]
   iterate 3 (refine Fam.pure_ (by rfl) (by rfl) rfl (fun K hK => ?_); go_big_quiet_op; refine hK _ ?_; clear hK K)
   refine Fam.read_ (.slice A5 pp.length c5) (by rfl) (by rfl) (fun m' _ u hu => ?_) ?_
   · obtain ⟨z0', z1', z2', z3', z4', z5'⟩ := HZw.out u (below_step HB9.out hu)
     clear hu
     go_simp
   simp only [Act.put, List.setIfInBounds_toArray, List.set_cons_zero, List.set_cons_succ]
   refine Fam.effCall_ (.tuple #[.string cx, .string cy, .bool true]) 27 ?_ (by rfl) (by rfl) (fun w => ?_) (fun u hu => ?_) ?_
   rotate_left
   · go_simp; rfl
   · exact (HCl.out u (below_step HB9.out hu)).mono fun e u' ⟨he, hb⟩ => ⟨he, hu.trans (hb.mono hu.size)⟩
   simp only [Act.put, List.setIfInBounds_toArray, List.set_cons_zero, List.set_cons_succ]
   iterate 7 (refine Fam.pure_ (by rfl) (by rfl) rfl (fun K hK => ?_); go_big_quiet_op; refine hK _ ?_; clear hK K)
   refine Fam.nil_ ?_
   intro w10 h10
   have HB10 := Lib.hid (below_step HB9.out h10)
   obtain ⟨u1, u2⟩ := HU.out
   clear h10 HB0 HX9 HZw HCl
   go_wp2_with (go_at_call 25; refine Pause'.out ?_)
   constructor
   refine (HS1.out _).mono ?_
   rintro e w11 ⟨rfl, hb⟩
   have HB11 := Lib.hid (below_step HB10.out hb)
   clear hb
   go_wp2_with (go_at_call 25; refine Pause'.out ?_)
   constructor
   refine (HS2.out _).mono ?_
   rintro e w12 ⟨rfl, hb⟩
   have HB12 := Lib.hid (below_step HB11.out hb)
   clear hb
   go_wp2
   go_ret
   exact ⟨rfl, HB12.out⟩
 · clear HOK hcv
   go_wp2
   refine Fam.wp_region_fam [27] (fun m u => Below w3.heap.size w3 u) (by kernel_rfl) (by kernel_rfl) HB0.out ?_
   iterate 8 (refine Fam.pure_ (by rfl) (by rfl) rfl (fun K hK => ?_); go_big_quiet_op; refine hK _ ?_; clear hK K)
   refine Fam.read_ (.slice (some ad) proofs.length c7) (by rfl) (by rfl) (fun m' _ u hu => ?_) ?_
   · have hx := (HXf.out u hu).cell (i := 12) rfl
     clear hu
     go_simp
   simp only [Act.put, List.setIfInBounds_toArray, List.set_cons_zero, List.set_cons_succ]
   refine Fam.any_ (.int .i64 (proofs.length : Int)) (by rfl) (by rfl) (fun w => ?_) ?_
   · go_simp
   simp only [Act.put, List.setIfInBounds_toArray, List.set_cons_zero, List.set_cons_succ]
   iterate 3 (refine Fam.pure_ (by rfl) (by rfl) rfl (fun K hK => ?_); go_big_quiet_op; refine hK _ ?_; clear hK K)
   iterate 4 (refine Fam.pure_ (by rfl) (by rfl) rfl (fun K hK => ?_); go_big_quiet_op; refine hK _ ?_; clear hK K)
   iterate 2 (refine Fam.pure_ (by rfl) (by rfl) rfl (fun K hK => ?_); go_big_quiet_op; refine hK _ ?_; clear hK K)
   refine Fam.read_ (.slice (some ad) proofs.length c7) (by rfl) (by rfl) (fun m' _ u hu => ?_) ?_
   · have hx := (HXf.out u hu).cell (i := 12) rfl
     clear hu
     go_simp
   simp only [Act.put, List.setIfInBounds_toArray, List.set_cons_zero, List.set_cons_succ]
   refine Fam.any_ (.int .i64 (proofs.length : Int)) (by rfl) (by rfl) (fun w => ?_) ?_
   · go_simp
   simp only [Act.put, List.setIfInBounds_toArray, List.set_cons_zero, List.set_cons_succ]
   iterate 3 (refine Fam.pure_ (by rfl) (by rfl) rfl (fun K hK => ?_); go_big_quiet_op; refine hK _ ?_; clear hK K)
   refine Fam.read_ (.agg #[.string tenant, .int .i64 seq, .string prev, .string root, .int .i64 count, .int .i64 level, .bool accept, .slice A2 order.length c2, .int .i64 bk, .int .i64 bi, .int .i64 bj, .slice A6 ring.length c6, .slice (some ad) proofs.length c7]) (by rfl) (by rfl) (fun m' _ u hu => ?_) ?_
   · have hx := HXf.out u hu; have a0 := hx.cell (i := 0) rfl; have a1 := hx.cell (i := 1) rfl; have a2 := hx.cell (i := 2) rfl; have a3 := hx.cell (i := 3) rfl; have a4 := hx.cell (i := 4) rfl; have a5 := hx.cell (i := 5) rfl; have a6 := hx.cell (i := 6) rfl; have a7 := hx.cell (i := 7) rfl; have a8 := hx.cell (i := 8) rfl; have a9 := hx.cell (i := 9) rfl; have a10 := hx.cell (i := 10) rfl; have a11 := hx.cell (i := 11) rfl; have a12 := hx.cell (i := 12) rfl
     clear hu
     go_simp
   simp only [Act.put, List.setIfInBounds_toArray, List.set_cons_zero, List.set_cons_succ]
   (refine Fam.pure_ (by rfl) (by rfl) rfl (fun K hK => ?_); go_big_quiet_op; refine hK _ ?_; clear hK K)
   refine Fam.read_ (.string root) (by rfl) (by rfl) (fun m' _ u hu => ?_) ?_
   · have hx := (HXf.out u hu).cell (i := 3) rfl
     clear hu
     go_simp
   simp only [Act.put, List.setIfInBounds_toArray, List.set_cons_zero, List.set_cons_succ]
   refine Fam.effCall_ (.int .i64 ck) 12 ?_ (by rfl) (by rfl) (fun w => ?_) (fun u hu => ?_) ?_
   rotate_left
   · go_simp; rfl
   · exact (HCK.out u (below_step HB3.out hu)).mono fun e u' ⟨he, hb⟩ => ⟨he, hu.trans (hb.mono hu.size)⟩
   simp only [Act.put, List.setIfInBounds_toArray, List.set_cons_zero, List.set_cons_succ]
   refine Fam.any_ (.bool true) (by rfl) (by rfl) (fun w => ?_) ?_
   · have hck2 : (ck == 0) = false := beq_eq_false_iff_ne.mpr hck
     go_simp
   simp only [Act.put, List.setIfInBounds_toArray, List.set_cons_zero, List.set_cons_succ]
   iterate 2 (refine Fam.pure_ (by rfl) (by rfl) rfl (fun K hK => ?_); go_big_quiet_op; refine hK _ ?_; clear hK K)
   iterate 8 (refine fam_skip (by rfl) (by rfl) ?_; simp only [Act.put, List.setIfInBounds_toArray, List.set_cons_zero, List.set_cons_succ])
   (refine Fam.pure_ (by rfl) (by rfl) rfl (fun K hK => ?_); go_big_quiet_op; refine hK _ ?_; clear hK K)
   refine Fam.nil_ ?_
   intro w4 h4
   go_wp2
   go_ret
   exact ⟨rfl, below_step HB3.out h4⟩
namespace Q
def cartouchelaw15_LeanTurned.f (_ : ByteArray) (_ : Int) (_ _ : ByteArray) (_ _ : Int) (_ : Bool) (_ : List Int) (_ _ _ : Int) (_ : List Edg) (_ : List Prf) (_ _ _ : Int) (_ _ : ByteArray) : Option Bool := some true
theorem cartouchelaw15_LeanTurned.calls (tenant : ByteArray) (seq : Int) (prev root : ByteArray) (count level : Int) (accept : Bool) (A2 : Option Addr) (c2 : Nat) (order : List Int) (bk bi bj : Int) (A6 : Option Addr) (c6 : Nat) (ring : List Edg) (A7 : Option Addr) (c7 : Nat) (proofs : List Prf) (i x0 x1 : Int) (x2 x3 : ByteArray) (r : Bool) (w : World) (hT : Tabs w) (h2 : Kd.C (Kd.int .i64) w A2 order.length order) (_ : order.length ≤ c2) (h6 : Kd.C k32 w A6 ring.length ring) (_ : ring.length ≤ c6) (h7 : Kd.C k55 w A7 proofs.length proofs) (_ : proofs.length ≤ c7) (h : cartouchelaw15_LeanTurned.f tenant seq prev root count level accept order bk bi bj ring proofs i x0 x1 x2 x3 = some r) :
 Calls Tryz.prog 5 #[.agg #[.string tenant, .int .i64 seq, .string prev, .string root, .int .i64 count, .int .i64 level, .bool accept, .slice A2 order.length c2, .int .i64 bk, .int .i64 bi, .int .i64 bj, .slice A6 ring.length c6, .slice A7 proofs.length c7], .int .i64 i, .agg #[.int .i64 x0, .int .i64 x1, .string x2, .string x3]] w fun e w' => e = .returned (.bool r) ∧ Below w.heap.size w w' := by
 obtain rfl : true = r := Option.some.inj h
 exact turned_walk tenant seq prev root count level accept A2 c2 order bk bi bj A6 c6 ring A7 c7 proofs i x0 x1 x2 x3 w hT h2 h6 h7
end Q
theorem LeanTurned_pure (tenant : ByteArray) (seq : Int) (prev root : ByteArray) (count level : Int) (accept : Bool) (order : List Int) (bk bi bj : Int) (ring : List Edg) (proofs : List Prf) (i x0 x1 : Int) (x2 x3 : ByteArray) {B0 B1 B2 : Prop} (_ : B0) (_ : B1) (_ : B2) : Q.cartouchelaw15_LeanTurned.f tenant seq prev root count level accept order bk bi bj ring proofs i x0 x1 x2 x3 = some true := rfl
end Go.Proofs.YtjlpjpjodhkpdaaGreatDoor
