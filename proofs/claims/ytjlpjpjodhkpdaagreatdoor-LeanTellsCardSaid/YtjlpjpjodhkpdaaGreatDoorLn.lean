/- lean.at, lean.end, lean.writer, lean.commit: the first proof of which something holds. -/
import Derived.Test.YtjlpjpjodhkpdaaGreatDoorFn
import Derived.Laws.EntriesVeiled
set_option maxHeartbeats 4000000
set_option maxRecDepth 100000
set_option linter.unusedVariables false
set_option linter.unusedSimpArgs false
namespace Go.Proofs.YtjlpjpjodhkpdaaGreatDoor
open Go.RowKit Go.Proofs.YtjlpjpjodhkpdaaGreatDoor.Q Go.Proofs.YtjlpjpjodhkpdaaGreatDoorW.PrintWords
theorem ba_list (a b : ByteArray) : (a.toList == b.toList) = decide (a = b) := by
 rw [ByteArray.toList_eq, ByteArray.toList_eq]
 by_cases h : a = b
 · subst h; simp
 · rw [decide_eq_false h, beq_eq_false_iff_ne]
   intro e
   exact h (by cases a; cases b; congr; exact Array.ext' e)
theorem ba_list_ne {a b : ByteArray} (h : a ≠ b) : a.toList ≠ b.toList := fun e => h (by
 have := ba_list a b
 rw [e] at this
 simpa using this.symm)
abbrev Prf := S55
abbrev Evn := S53
def isAt (i : Int) (x : Prf) : Bool := decide (x.f0 = i)
def isEnd (t : Int) (x : Prf) : Bool := decide (x.f1.f1 = t) && (decide (x.f1.f0 = 4) || decide (x.f1.f0 = 5))
def isWr (key val : ByteArray) (x : Prf) : Bool := decide (x.f1.f0 = 3) && (decide (x.f1.f2 = key) && decide (x.f1.f3 = val))
def atK (q : Prf → Bool) (l : List Prf) (k : Nat) : Bool := q (rd_T55 l k)
theorem pred_at (i : Int) (B : Nat) (l : List Prf) (w : World) (hc : w.cell? ⟨B, 0, none⟩ = some (.int .i64 i)) :
 PredP 80 #[.pointer (some ⟨B, 0, none⟩)] l (atK (isAt i) l) w := by
 intro k hk W hb A5 c5 h5 hC
 have c0 := pw_cell_below hb hc
 have n0 : B < W.heap.size := World.block_lt_of_cell? W _ c0
 have hB := Lib.hid hb
 unfold atK isAt
 generalize rd_T55 l (k : Int) = x at *
 obtain ⟨x0, ⟨x1, x2, x3, x4⟩, x5⟩ := x
 dsimp only at *
 clear hC hc hb
 show Calls Tryz.prog 80 #[.agg #[.int .i64 x0, .int .i64 x1, .int .i64 x2, .string x3, .string x4, .slice A5 x5.length c5], .pointer (some ⟨B, 0, none⟩)] W _
 go_enter Tryz.func80, Tryz.ntmps80
 go_wp2
 go_ret
 exact ⟨by first | rfl | (simp [ba_list]; done), below_alloc (Below.refl _ _) _⟩
theorem pred_end (t : Int) (B : Nat) (l : List Prf) (w : World) (hc : w.cell? ⟨B, 0, none⟩ = some (.int .i64 t)) :
 PredP 82 #[.pointer (some ⟨B, 0, none⟩)] l (atK (isEnd t) l) w := by
 intro k hk W hb A5 c5 h5 hC
 have c0 := pw_cell_below hb hc
 have n0 : B < W.heap.size := World.block_lt_of_cell? W _ c0
 have hB := Lib.hid hb
 unfold atK isEnd
 generalize rd_T55 l (k : Int) = x at *
 obtain ⟨x0, ⟨x1, x2, x3, x4⟩, x5⟩ := x
 dsimp only at *
 clear hC hc hb
 show Calls Tryz.prog 82 #[.agg #[.int .i64 x0, .int .i64 x1, .int .i64 x2, .string x3, .string x4, .slice A5 x5.length c5], .pointer (some ⟨B, 0, none⟩)] W _
 by_cases h1 : x2 = t
 · subst h1
   by_cases h2 : x1 = 4
   · subst h2
     go_enter Tryz.func82, Tryz.ntmps82
     go_wp2
     go_ret
     exact ⟨by first | rfl | (simp [ba_list]; done), below_alloc (Below.refl _ _) _⟩
   · have b2 : (x1 == 4) = false := beq_eq_false_iff_ne.mpr h2
     have d2 : decide (x1 = 4) = false := decide_eq_false h2
     go_enter Tryz.func82, Tryz.ntmps82
     go_wp2
     go_ret
     exact ⟨by first | rfl | (simp [h2, ba_list]; done) | (simp [h2, Bool.beq_eq_decide_eq]; done) | (rw [show (x1 == 5) = decide (x1 = 5) from rfl, d2]; rfl) | (simp [*]; done), below_alloc (Below.refl _ _) _⟩
 · have b2 : (x2 == t) = false := beq_eq_false_iff_ne.mpr h1
   have d2 : decide (x2 = t) = false := decide_eq_false h1
   go_enter Tryz.func82, Tryz.ntmps82
   go_wp2
   go_ret
   exact ⟨by first | rfl | (simp [h1]; done) | (simp [*]; done), below_alloc (Below.refl _ _) _⟩
theorem pred_wr (e0 e1 : Int) (key val : ByteArray) (B : Nat) (l : List Prf) (w : World) (hc2 : w.cell? ⟨B, 2, none⟩ = some (.string key)) (hc3 : w.cell? ⟨B, 3, none⟩ = some (.string val)) :
 PredP 81 #[.pointer (some ⟨B, 0, none⟩)] l (atK (isWr key val) l) w := by
 intro k hk W hb A5 c5 h5 hC
 have c2 := pw_cell_below hb hc2
 have c3 := pw_cell_below hb hc3
 have n0 : B < W.heap.size := World.block_lt_of_cell? W _ c2
 have hB := Lib.hid hb
 unfold atK isWr
 generalize rd_T55 l (k : Int) = x at *
 obtain ⟨x0, ⟨x1, x2, x3, x4⟩, x5⟩ := x
 dsimp only at *
 clear hC hc2 hc3 hb
 show Calls Tryz.prog 81 #[.agg #[.int .i64 x0, .int .i64 x1, .int .i64 x2, .string x3, .string x4, .slice A5 x5.length c5], .pointer (some ⟨B, 0, none⟩)] W _
 by_cases h1 : x1 = 3
 · subst h1
   by_cases h2 : x3 = key
   · subst h2
     go_enter Tryz.func81, Tryz.ntmps81
     go_wp2
     go_ret
     exact ⟨by first | rfl | (simp [ba_list]; done), below_alloc (Below.refl _ _) _⟩
   · have d2 : decide (x3 = key) = false := decide_eq_false h2
     have t2 := ba_list_ne h2
     have t3 : (x3.toList == key.toList) = false := by rw [ba_list]; exact d2
     go_enter Tryz.func81, Tryz.ntmps81
     go_wp2
     go_ret
     exact ⟨by first | rfl | (simp [h2, ba_list]; done) | (simp [h2, Bool.beq_eq_decide_eq]; done) | (rw [show (x1 == 5) = decide (x1 = 5) from rfl, d2]; rfl) | (simp [*]; done), below_alloc (Below.refl _ _) _⟩
 · have b2 : (x1 == 3) = false := beq_eq_false_iff_ne.mpr h1
   have d2 : decide (x1 = 3) = false := decide_eq_false h1
   go_enter Tryz.func81, Tryz.ntmps81
   go_wp2
   go_ret
   exact ⟨by first | rfl | (simp [h1]; done) | (simp [*]; done), below_alloc (Below.refl _ _) _⟩
def foundP (q : Prf → Bool) (l : List Prf) : Prf := (l.find? q).getD z55
def isP (q : Prf → Bool) (l : List Prf) : Bool := (l.find? q).isSome
theorem find_split (q : Prf → Bool) : ∀ (l : List Prf) (k : Nat), k < l.length → q (l.getD k z55) = true → (∀ j, j < k → q (l.getD j z55) = false) → l.find? q = some (l.getD k z55)
 | [], k, h, _, _ => absurd h (by simp)
 | x :: l, 0, _, h1, _ => by
   have h1' : q x = true := h1
   rw [List.find?_cons_of_pos h1']; rfl
 | x :: l, k + 1, h0, h1, h2 => by
   have hx : ¬ q x = true := by have := h2 0 (by omega); simpa using this
   rw [List.find?_cons_of_neg hx]
   exact find_split q l k (by simpa using h0) h1 fun j hj => h2 (j + 1) (by omega)
theorem rdT_nat (l : List Prf) (k : Nat) : rd_T55 l (k : Int) = l.getD k z55 := by
 unfold rd_T55
 rw [Int.toNat_natCast]
theorem find_hit (q : Prf → Bool) (l : List Prf) (k : Nat) (h0 : k < l.length) (h1 : atK q l k = true) (h2 : ∀ j, j < k → atK q l j = false) : l.find? q = some (rd_T55 l k) := by
 unfold atK at h1 h2
 rw [rdT_nat] at h1 ⊢
 exact find_split q l k h0 h1 fun j hj => by have := h2 j hj; rwa [rdT_nat] at this
theorem find_miss (q : Prf → Bool) (l : List Prf) (h : ∀ j, j < l.length → atK q l j = false) : l.find? q = none := by
 rw [List.find?_eq_none]
 intro x hx
 obtain ⟨j, hj, rfl⟩ := List.getElem_of_mem hx
 have := h j hj
 unfold atK at this
 rw [rdT_nat, List.getD_eq_getElem?_getD, List.getElem?_eq_getElem hj] at this
 simpa using this
def prfV (x : Prf) (v : Value) : Value := .agg #[.int .i64 x.f0, .int .i64 x.f1.f0, .int .i64 x.f1.f1, .string x.f1.f2, .string x.f1.f3, v]
theorem lnFirst_any (F : Nat) (eg : ∀ args w, (callFunc F args).run Tryz.prog w = .ok (.enter F args) w) (caps : Array Value) (A0 : Option Addr) (c0 : Nat) (l : List Prf) (q : Prf → Bool) (w : World) (hr : Kd.C k55 w A0 l.length l) (hl : l.length ≤ 9223372036854775806) (hp : PredP F caps l (atK q l) w) :
 Calls Tryz.prog 79 #[.slice A0 l.length c0, .func (.func F) #[] caps] w fun e w' => (∃ A5 n5 c5, e = .returned (.tuple #[prfV (foundP q l) (.slice A5 n5 c5), .bool (isP q l)])) ∧ Below w.heap.size w w' := by
 have hI := fun u (hb : Below w.heap.size w u) => indexP_any F eg caps A0 c0 l (atK q l) u (Kd.C_below hr hb) hl (hp.up hb)
 have HI := Lib.hid hI; have HR := Lib.hid hr; have HB := Lib.hid (Below.refl w.heap.size w)
 rcases firstFrom_zero (atK q l) l.length with ⟨h1, h2⟩ | ⟨k, h1, h2, h3, h4⟩
 · have hf := find_miss q l h2
   have e1 : foundP q l = z55 := by unfold foundP; rw [hf]; rfl
   have e2 : isP q l = false := by unfold isP; rw [hf]; rfl
   rw [e1, e2]
   simp only [h1] at HI
   clear hI hr hp h1 h2 hf e1 e2
   go_enter Tryz.func79, Tryz.ntmps79
   go_wp2_with (go_at_call 105; (refine (HI.out _ (below_alloc HB.out _)).mono ?_); rintro e w1 ⟨rfl, hb⟩; have HX1 := Lib.hid ((RowIs.new w 55 [.int .i64 0, .int .i64 0, .int .i64 0, .string ⟨#[]⟩, .string ⟨#[]⟩, .slice none 0 0]).below hb); have HB2 := Lib.hid (below_step (below_alloc HB.out _) hb); have x0 := HX1.out.cell (i := 0) rfl; have f0 := HX1.out.frozen 0; have x1 := HX1.out.cell (i := 1) rfl; have f1 := HX1.out.frozen 1; have x2 := HX1.out.cell (i := 2) rfl; have f2 := HX1.out.frozen 2; have x3 := HX1.out.cell (i := 3) rfl; have f3 := HX1.out.frozen 3; have x4 := HX1.out.cell (i := 4) rfl; have f4 := HX1.out.frozen 4; have x5 := HX1.out.cell (i := 5) rfl; have f5 := HX1.out.frozen 5; clear hb)
   refine bodyPost_ret (results_ct (Tryz.results79) _ _ w.heap.size 55 #[.int .i64 0, .int .i64 0, .int .i64 0, .string ⟨#[]⟩, .string ⟨#[]⟩, .slice none 0 0] (0, 0) _ rfl (show _ from ((((((HX1.out.set 0 (.int .i64 0)).set 1 (.int .i64 0)).set 2 (.int .i64 0)).set 3 (.string ⟨#[]⟩)).set 4 (.string ⟨#[]⟩)).set 5 (.slice none 0 0))) Tryz.underlying55 rfl (by kernel_rfl)) rfl ?_
   exact ⟨⟨none, 0, 0, rfl⟩, below_set (below_set (below_set (below_set (below_set (below_set HB2.out (Nat.le_refl _)) (Nat.le_refl _)) (Nat.le_refl _)) (Nat.le_refl _)) (Nat.le_refl _)) (Nat.le_refl _)⟩
 · have hf := find_hit q l k h2 h3 h4
   have e1 : foundP q l = rd_T55 l (k : Int) := by unfold foundP; rw [hf]; rfl
   have e2 : isP q l = true := by unfold isP; rw [hf]; rfl
   rw [e1, e2]
   simp only [h1] at HI
   clear hI hr hp h1 h3 h4 hf e1 e2
   go_enter Tryz.func79, Tryz.ntmps79
   go_wp2_with (go_at_call 105; (refine (HI.out _ (below_alloc HB.out _)).mono ?_); rintro e w1 ⟨rfl, hb⟩; have HX1 := Lib.hid ((RowIs.new w 55 [.int .i64 0, .int .i64 0, .int .i64 0, .string ⟨#[]⟩, .string ⟨#[]⟩, .slice none 0 0]).below hb); have HB2 := Lib.hid (below_step (below_alloc HB.out _) hb); have x0 := HX1.out.cell (i := 0) rfl; have f0 := HX1.out.frozen 0; have x1 := HX1.out.cell (i := 1) rfl; have f1 := HX1.out.frozen 1; have x2 := HX1.out.cell (i := 2) rfl; have f2 := HX1.out.frozen 2; have x3 := HX1.out.cell (i := 3) rfl; have f3 := HX1.out.frozen 3; have x4 := HX1.out.cell (i := 4) rfl; have f4 := HX1.out.frozen 4; have x5 := HX1.out.cell (i := 5) rfl; have f5 := HX1.out.frozen 5; obtain ⟨ad, A5, c5, rfl, y0, y1, y2, y3, y4, y5, _, _⟩ := at_T55 (Kd.C_below HR.out HB2.out) (k : Int) (by omega) (by omega); have kn : ((k : Int)).toNat = k := Int.toNat_natCast k; rw [kn] at y0 y1 y2 y3 y4 y5; have hlt : (k : Int) < (l.length : Int) := (by omega); clear hb)
   refine bodyPost_ret (results_ct (Tryz.results79) _ _ w.heap.size 55 #[.int .i64 (rd_T55 l (k : Int)).f0, .int .i64 (rd_T55 l (k : Int)).f1.f0, .int .i64 (rd_T55 l (k : Int)).f1.f1, .string (rd_T55 l (k : Int)).f1.f2, .string (rd_T55 l (k : Int)).f1.f3, .slice A5 (rd_T55 l (k : Int)).f2.length c5] (0, 0) _ rfl (show _ from ((((((HX1.out.set 0 (.int .i64 (rd_T55 l (k : Int)).f0)).set 1 (.int .i64 (rd_T55 l (k : Int)).f1.f0)).set 2 (.int .i64 (rd_T55 l (k : Int)).f1.f1)).set 3 (.string (rd_T55 l (k : Int)).f1.f2)).set 4 (.string (rd_T55 l (k : Int)).f1.f3)).set 5 (.slice A5 (rd_T55 l (k : Int)).f2.length c5))) Tryz.underlying55 rfl (by kernel_rfl)) rfl ?_
   exact ⟨⟨A5, _, c5, rfl⟩, below_set (below_set (below_set (below_set (below_set (below_set HB2.out (Nat.le_refl _)) (Nat.le_refl _)) (Nat.le_refl _)) (Nat.le_refl _)) (Nat.le_refl _)) (Nat.le_refl _)⟩
theorem lnAt_any (A0 : Option Addr) (c0 : Nat) (l : List Prf) (i : Int) (w : World) (hr : Kd.C k55 w A0 l.length l) (hl : l.length ≤ 9223372036854775806) :
 Calls Tryz.prog 38 #[.slice A0 l.length c0, .int .i64 i] w fun e w' => e = .returned (.tuple #[.agg #[.int .i64 (foundP (isAt i) l).f1.f0, .int .i64 (foundP (isAt i) l).f1.f1, .string (foundP (isAt i) l).f1.f2, .string (foundP (isAt i) l).f1.f3], .bool (isP (isAt i) l)]) ∧ Below w.heap.size w w' := by
 have eg : ∀ args w, (callFunc 80 args).run Tryz.prog w = .ok (.enter 80 args) w := enters_of Tryz.func80 (by kernel_rfl) rfl
 have HC := Lib.hid (fun (w1 : World) (hb : Below w.heap.size w w1) (hc : w1.cell? ⟨w.heap.size, 0, none⟩ = some (.int .i64 i)) => lnFirst_any 80 eg #[.pointer (some ⟨w.heap.size, 0, none⟩)] A0 c0 l (isAt i) w1 (Kd.C_below hr hb) hl (pred_at i w.heap.size l w1 hc))
 have HB := Lib.hid (Below.refl w.heap.size w)
 clear hr eg
 generalize foundP (isAt i) l = x at *
 generalize isP (isAt i) l = b at *
 obtain ⟨y0, ⟨y1, y2, y3, y4⟩, y5⟩ := x
 simp only [prfV] at HC ⊢
 have hge : w.heap.size ≤ w.heap.size + 1 := Nat.le_succ _
 go_enter Tryz.func38, Tryz.ntmps38
 go_wp2_with (go_at_call 79; (refine (HC.out _ (below_alloc (below_alloc HB.out _) _) (by simp)).mono ?_); rintro e w1 ⟨⟨A5, n5, c5, rfl⟩, hb⟩; have HX1 := Lib.hid (((RowIs.new (w.alloc (.cells #[.int .i64 i] 3)) 53 [.int .i64 0, .int .i64 0, .string ⟨#[]⟩, .string ⟨#[]⟩])).below hb); rw [World.size_alloc] at HX1; have HB2 := Lib.hid (below_step (below_alloc (below_alloc HB.out _) _) hb); have hz := hb.size; rw [World.size_alloc, World.size_alloc] at hz; have hz2 : w.heap.size + 1 < w1.heap.size := (by omega); have x0 := HX1.out.cell (i := 0) rfl; have f0 := HX1.out.frozen 0; have x1 := HX1.out.cell (i := 1) rfl; have f1 := HX1.out.frozen 1; have x2 := HX1.out.cell (i := 2) rfl; have f2 := HX1.out.frozen 2; have x3 := HX1.out.cell (i := 3) rfl; have f3 := HX1.out.frozen 3; clear hb)
 refine bodyPost_ret (results_ct (Tryz.results38) _ _ (w.heap.size + 1) 53 #[.int .i64 y1, .int .i64 y2, .string y3, .string y4] (0, 0) _ rfl (show _ from (((((HX1.out.set 0 (.int .i64 y1)).set 1 (.int .i64 y2)).set 2 (.string y3)).set 3 (.string y4)).alloc (.cells #[.int .i64 y0, .int .i64 y1, .int .i64 y2, .string y3, .string y4, .slice A5 n5 c5] 55))) Tryz.underlying53 rfl (by kernel_rfl)) rfl ?_
 exact ⟨rfl, below_alloc (below_set (below_set (below_set (below_set (HB2.out) hge) hge) hge) hge) (.cells #[.int .i64 y0, .int .i64 y1, .int .i64 y2, .string y3, .string y4, .slice A5 n5 c5] 55)⟩
theorem lnEnd_any (A0 : Option Addr) (c0 : Nat) (l : List Prf) (t : Int) (w : World) (hr : Kd.C k55 w A0 l.length l) (hl : l.length ≤ 9223372036854775806) :
 Calls Tryz.prog 41 #[.slice A0 l.length c0, .int .i64 t] w fun e w' => (∃ A5 n5 c5, e = .returned (.tuple #[prfV (foundP (isEnd t) l) (.slice A5 n5 c5), .bool (isP (isEnd t) l)])) ∧ Below w.heap.size w w' := by
 have eg : ∀ args w, (callFunc 82 args).run Tryz.prog w = .ok (.enter 82 args) w := enters_of Tryz.func82 (by kernel_rfl) rfl
 have HC := Lib.hid (fun (w1 : World) (hb : Below w.heap.size w w1) (hc : w1.cell? ⟨w.heap.size, 0, none⟩ = some (.int .i64 t)) => lnFirst_any 82 eg #[.pointer (some ⟨w.heap.size, 0, none⟩)] A0 c0 l (isEnd t) w1 (Kd.C_below hr hb) hl (pred_end t w.heap.size l w1 hc))
 have HB := Lib.hid (Below.refl w.heap.size w)
 clear hr eg
 generalize foundP (isEnd t) l = x at *
 generalize isP (isEnd t) l = b at *
 obtain ⟨y0, ⟨y1, y2, y3, y4⟩, y5⟩ := x
 simp only [prfV] at HC ⊢
 have hge : w.heap.size ≤ w.heap.size + 1 := Nat.le_succ _
 go_enter Tryz.func41, Tryz.ntmps41
 go_wp2_with (go_at_call 79; (refine (HC.out _ (below_alloc (below_alloc HB.out _) _) (by simp)).mono ?_); rintro e w1 ⟨⟨A5, n5, c5, rfl⟩, hb⟩; have HX1 := Lib.hid (((RowIs.new (w.alloc (.cells #[.int .i64 t] 3)) 55 [.int .i64 0, .int .i64 0, .int .i64 0, .string ⟨#[]⟩, .string ⟨#[]⟩, .slice none 0 0])).below hb); rw [World.size_alloc] at HX1; have HB2 := Lib.hid (below_step (below_alloc (below_alloc HB.out _) _) hb); have hz := hb.size; rw [World.size_alloc, World.size_alloc] at hz; have hz2 : w.heap.size + 1 < w1.heap.size := (by omega); have x0 := HX1.out.cell (i := 0) rfl; have f0 := HX1.out.frozen 0; have x1 := HX1.out.cell (i := 1) rfl; have f1 := HX1.out.frozen 1; have x2 := HX1.out.cell (i := 2) rfl; have f2 := HX1.out.frozen 2; have x3 := HX1.out.cell (i := 3) rfl; have f3 := HX1.out.frozen 3; have x4 := HX1.out.cell (i := 4) rfl; have f4 := HX1.out.frozen 4; have x5 := HX1.out.cell (i := 5) rfl; have f5 := HX1.out.frozen 5; clear hb)
 refine bodyPost_ret (results_ct (Tryz.results41) _ _ (w.heap.size + 1) 55 #[.int .i64 y0, .int .i64 y1, .int .i64 y2, .string y3, .string y4, .slice A5 n5 c5] (0, 0) _ rfl (show _ from ((((((HX1.out.set 0 (.int .i64 y0)).set 1 (.int .i64 y1)).set 2 (.int .i64 y2)).set 3 (.string y3)).set 4 (.string y4)).set 5 (.slice A5 n5 c5))) Tryz.underlying55 rfl (by kernel_rfl)) rfl ?_
 exact ⟨⟨A5, n5, c5, rfl⟩, below_set (below_set (below_set (below_set (below_set (below_set (HB2.out) hge) hge) hge) hge) hge) hge⟩
theorem lnWriter_any (A0 : Option Addr) (c0 : Nat) (l : List Prf) (e0 e1 : Int) (key val : ByteArray) (w : World) (hr : Kd.C k55 w A0 l.length l) (hl : l.length ≤ 9223372036854775806) :
 Calls Tryz.prog 40 #[.slice A0 l.length c0, .agg #[.int .i64 e0, .int .i64 e1, .string key, .string val]] w fun e w' => (∃ A5 n5 c5, e = .returned (.tuple #[prfV (foundP (isWr key val) l) (.slice A5 n5 c5), .bool (isP (isWr key val) l)])) ∧ Below w.heap.size w w' := by
 have eg : ∀ args w, (callFunc 81 args).run Tryz.prog w = .ok (.enter 81 args) w := enters_of Tryz.func81 (by kernel_rfl) rfl
 have HC := Lib.hid (fun (w1 : World) (hb : Below w.heap.size w w1) (hc2 : w1.cell? ⟨w.heap.size, 2, none⟩ = some (.string key)) (hc3 : w1.cell? ⟨w.heap.size, 3, none⟩ = some (.string val)) => lnFirst_any 81 eg #[.pointer (some ⟨w.heap.size, 0, none⟩)] A0 c0 l (isWr key val) w1 (Kd.C_below hr hb) hl (pred_wr e0 e1 key val w.heap.size l w1 hc2 hc3))
 have HB := Lib.hid (Below.refl w.heap.size w)
 clear hr eg
 generalize foundP (isWr key val) l = x at *
 generalize isP (isWr key val) l = b at *
 obtain ⟨y0, ⟨y1, y2, y3, y4⟩, y5⟩ := x
 simp only [prfV] at HC ⊢
 have hge : w.heap.size ≤ w.heap.size + 1 := Nat.le_succ _
 go_enter Tryz.func40, Tryz.ntmps40
 go_wp2_with (go_at_call 79; (refine (HC.out _ (below_alloc (below_alloc HB.out _) _) (by simp) (by simp)).mono ?_); rintro e w1 ⟨⟨A5, n5, c5, rfl⟩, hb⟩; have HX1 := Lib.hid (((RowIs.new (w.alloc (.cells #[.int .i64 e0, .int .i64 e1, .string key, .string val] 53)) 55 [.int .i64 0, .int .i64 0, .int .i64 0, .string ⟨#[]⟩, .string ⟨#[]⟩, .slice none 0 0])).below hb); rw [World.size_alloc] at HX1; have HB2 := Lib.hid (below_step (below_alloc (below_alloc HB.out _) _) hb); have hz := hb.size; rw [World.size_alloc, World.size_alloc] at hz; have hz2 : w.heap.size + 1 < w1.heap.size := (by omega); have x0 := HX1.out.cell (i := 0) rfl; have f0 := HX1.out.frozen 0; have x1 := HX1.out.cell (i := 1) rfl; have f1 := HX1.out.frozen 1; have x2 := HX1.out.cell (i := 2) rfl; have f2 := HX1.out.frozen 2; have x3 := HX1.out.cell (i := 3) rfl; have f3 := HX1.out.frozen 3; have x4 := HX1.out.cell (i := 4) rfl; have f4 := HX1.out.frozen 4; have x5 := HX1.out.cell (i := 5) rfl; have f5 := HX1.out.frozen 5; clear hb)
 refine bodyPost_ret (results_ct (Tryz.results40) _ _ (w.heap.size + 1) 55 #[.int .i64 y0, .int .i64 y1, .int .i64 y2, .string y3, .string y4, .slice A5 n5 c5] (0, 0) _ rfl (show _ from ((((((HX1.out.set 0 (.int .i64 y0)).set 1 (.int .i64 y1)).set 2 (.int .i64 y2)).set 3 (.string y3)).set 4 (.string y4)).set 5 (.slice A5 n5 c5))) Tryz.underlying55 rfl (by kernel_rfl)) rfl ?_
 exact ⟨⟨A5, n5, c5, rfl⟩, below_set (below_set (below_set (below_set (below_set (below_set (HB2.out) hge) hge) hge) hge) hge) hge⟩
def lnCommit (l : List Prf) (t : Int) : Int := if isP (isEnd t) l = true ∧ (foundP (isEnd t) l).f1.f0 = 4 then (foundP (isEnd t) l).f0 else -1
theorem lnCommit_any (A0 : Option Addr) (c0 : Nat) (l : List Prf) (t : Int) (w : World) (hr : Kd.C k55 w A0 l.length l) (hl : l.length ≤ 9223372036854775806) :
 Calls Tryz.prog 39 #[.slice A0 l.length c0, .int .i64 t] w fun e w' => e = .returned (.int .i64 (lnCommit l t)) ∧ Below w.heap.size w w' := by
 have HC := Lib.hid (fun (w1 : World) (hb : Below w.heap.size w w1) => lnEnd_any A0 c0 l t w1 (Kd.C_below hr hb) hl)
 have HB := Lib.hid (Below.refl w.heap.size w)
 unfold lnCommit
 clear hr
 generalize foundP (isEnd t) l = x at *
 generalize isP (isEnd t) l = b at *
 obtain ⟨y0, ⟨y1, y2, y3, y4⟩, y5⟩ := x
 simp only [prfV] at HC
 obtain ⟨r, hr0⟩ : ∃ r, r = (if b = true ∧ y1 = 4 then y0 else -1) := ⟨_, rfl⟩
 show Calls _ _ _ _ fun e w' => e = .returned (.int .i64 (if b = true ∧ y1 = 4 then y0 else -1)) ∧ _
 rw [← hr0]
 cases b with
 | false =>
   have hr1 : r = -1 := by rw [hr0]; simp
   subst hr1
   clear hr0
   go_enter Tryz.func39, Tryz.ntmps39
   go_wp2_with (go_at_call 41; (refine (HC.out _ HB.out).mono ?_); rintro e w1 ⟨⟨A5, n5, c5, rfl⟩, hb⟩; have HB2 := Lib.hid (below_step HB.out hb); clear hb)
   go_ret
   exact ⟨rfl, below_alloc HB2.out _⟩
 | true =>
   by_cases h4 : y1 = 4
   · subst h4
     have hr1 : r = y0 := by rw [hr0]; simp
     subst hr1
     clear hr0
     go_enter Tryz.func39, Tryz.ntmps39
     go_wp2_with (go_at_call 41; (refine (HC.out _ HB.out).mono ?_); rintro e w1 ⟨⟨A5, n5, c5, rfl⟩, hb⟩; have HB2 := Lib.hid (below_step HB.out hb); clear hb)
     go_ret
     exact ⟨rfl, below_alloc HB2.out _⟩
   · have hr1 : r = -1 := by rw [hr0]; simp [h4]
     subst hr1
     clear hr0
     have d4 : decide (y1 = 4) = false := decide_eq_false h4
     have b4 : (y1 == 4) = false := beq_eq_false_iff_ne.mpr h4
     go_enter Tryz.func39, Tryz.ntmps39
     go_wp2_with (go_at_call 41; (refine (HC.out _ HB.out).mono ?_); rintro e w1 ⟨⟨A5, n5, c5, rfl⟩, hb⟩; have HB2 := Lib.hid (below_step HB.out hb); clear hb)
     go_ret
     exact ⟨rfl, below_alloc HB2.out _⟩
end Go.Proofs.YtjlpjpjodhkpdaaGreatDoor
