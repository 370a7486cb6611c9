/- cert.May: whether a certificate may be. -/
import Derived.Test.YtjlpjpjodhkpdaaGreatDoorCmM
set_option maxHeartbeats 8000000
set_option maxRecDepth 100000
set_option linter.unusedVariables false
set_option linter.unusedSimpArgs false
namespace Go.Proofs.YtjlpjpjodhkpdaaGreatDoor
open Go.RowKit Go.Proofs.YtjlpjpjodhkpdaaGreatDoor.Q Go.Proofs.YtjlpjpjodhkpdaaGreatDoorW.PrintWords
def headB (tenant : ByteArray) (seq : Int) (prev root : ByteArray) (count : Int) : Bool := decide ((1 ≤ tenant.size ∧ tenant.size ≤ 16 ∧ 1 ≤ seq ∧ seq ≤ 1048576) ∧ (prev.size = 0 ∨ prev.size = 32) ∧ root.size = 32 ∧ 0 ≤ count ∧ count ≤ 256)
def certB (c : CertD) : Bool := headB c.tenant c.seq c.prev c.root c.count && (verB c.level c.order c.bk c.bi c.bj c.ring && (decide (c.proofs.length ≤ 256) && c.proofs.all prfB))
theorem ba_nil {a : ByteArray} (h : a.size = 0) : a = ⟨#[]⟩ := by
 cases a with | mk d => congr; exact Array.eq_empty_of_size_eq_zero h
theorem ba_list_nil (a : ByteArray) : (a.toList == []) = decide (a.size = 0) := by
 have h := ba_list a ⟨#[]⟩
 have e : (⟨#[]⟩ : ByteArray).toList = [] := by rw [ByteArray.toList_eq]
 rw [e] at h
 rw [h]
 by_cases h0 : a.size = 0
 · rw [ba_nil h0]; rfl
 · rw [decide_eq_false h0, decide_eq_false]
   rintro rfl
   exact h0 rfl
theorem ba_list_none {a : ByteArray} (h : a.size ≠ 0) : a.toList ≠ [] := fun e => by
 have := ba_list_nil a
 rw [e, decide_eq_false h] at this
 simp at this
theorem certMay_any (tenant : ByteArray) (seq : Int) (prev root : ByteArray) (count level : Int) (accept : Bool) (A2 : Option Addr) (c2 : Nat) (order : List Int) (bk bi bj : Int) (A6 : Option Addr) (c6 : Nat) (ring : List Edg) (A7 : Option Addr) (c7 : Nat) (proofs : List Prf) (w : World) (h2 : Kd.C (Kd.int .i64) w A2 order.length order) (h6 : Kd.C k32 w A6 ring.length ring) (h7 : Kd.C k55 w A7 proofs.length proofs) :
 Calls Tryz.prog 32 #[.agg #[.string tenant, .int .i64 seq, .string prev, .string root, .int .i64 count, .int .i64 level, .bool accept, .slice A2 order.length c2, .int .i64 bk, .int .i64 bi, .int .i64 bj, .slice A6 ring.length c6, .slice A7 proofs.length c7]] w fun e w' => e = .returned (.bool (certB ⟨tenant, seq, prev, root, count, level, accept, order, bk, bi, bj, ring, proofs⟩)) ∧ Below w.heap.size w w' := by
 have HS := Lib.hid (fun u => certSum_any prev u); have HT := Lib.hid (fun u => certSum_any root u)
 have HV := Lib.hid (fun u (hb : Below w.heap.size w u) => certVerdict_any level accept A2 c2 order bk bi bj A6 c6 ring u (Kd.C_below h2 hb) (Kd.C_below h6 hb))
 have HR := Lib.hid (fun u (hb : Below w.heap.size w u) (h : proofs.length ≤ 256) => prfs_any A7 c7 proofs u (Kd.C_below h7 hb) (by omega))
 unfold certB
 dsimp only
 generalize verB level order bk bi bj ring = b1 at *
 generalize proofs.all prfB = b2 at *
 have HB1 := Lib.hid (below_alloc (Below.refl w.heap.size w) (.cells #[.string tenant, .int .i64 seq, .string prev, .string root, .int .i64 count, .int .i64 level, .bool accept, .slice A2 order.length c2, .int .i64 bk, .int .i64 bi, .int .i64 bj, .slice A6 ring.length c6, .slice A7 proofs.length c7] 30))
 have HX1 := Lib.hid (RowIs.new w 30 [.string tenant, .int .i64 seq, .string prev, .string root, .int .i64 count, .int .i64 level, .bool accept, .slice A2 order.length c2, .int .i64 bk, .int .i64 bi, .int .i64 bj, .slice A6 ring.length c6, .slice A7 proofs.length c7])
 clear h2 h6 h7
 obtain ⟨hd, hhd⟩ : ∃ hd, hd = headB tenant seq prev root count := ⟨_, rfl⟩
 rw [← hhd]
 have HHD := Lib.hid hhd
 clear hhd
 by_cases q0 : tenant.size = 0
 have e1 : (tenant.toList == []) = true := by rw [ba_list_nil]; exact decide_eq_true q0
 have e2 := ba_nil q0
 subst e2
 rotate_left
 have e1 : (tenant.toList == []) = false := by rw [ba_list_nil]; exact decide_eq_false q0
 have e2 := ba_list_none q0
 by_cases q1 : (16 : Int) < (tenant.size : Int)
 rotate_left
 by_cases q2 : seq < 1
 rotate_left
 by_cases q3 : 1048576 < seq
 rotate_left
 by_cases p0 : prev.size = 0
 have e4 := ba_nil p0
 clear HS
 subst e4
 have HS := Lib.hid (fun u => certSum_any root u)
 have MAIN := True.intro
 rotate_left
 have e3 : (prev.toList == []) = false := by rw [ba_list_nil]; exact decide_eq_false p0
 have e4 := ba_list_none p0
 by_cases p3 : prev.size = 32
 rw [decide_eq_true p3] at HS
 have MAIN := True.intro
 rotate_left
 rw [decide_eq_false p3] at HS
 all_goals first | (have := MAIN; by_cases r1 : ¬ root.size = 32; rw [decide_eq_false r1] at HT; rotate_left; rw [decide_eq_true (Decidable.not_not.1 r1)] at HT; by_cases q5 : count < 0; rotate_left; by_cases q6 : 256 < count; rotate_left; cases b1; rotate_left; by_cases g7 : ¬ proofs.length ≤ 256; have q7 : ¬ (proofs.length : Int) ≤ 256 := (by omega); rotate_left; have q7 : ¬ (256 : Int) < (proofs.length : Int) := (by omega); have q8 : (proofs.length : Int) ≤ 256 := (by omega); cases b2) | skip
 all_goals (first | (have hh : hd = false := HHD.out.trans (decide_eq_false (by omega)); subst hh) | (have hh : hd = true := HHD.out.trans (decide_eq_true (by omega)); subst hh); clear HHD)
 all_goals first | (have g7 := Decidable.not_not.1 g7; rw [decide_eq_true g7]) | rw [decide_eq_false g7] | skip
 all_goals go_enter Tryz.func32, Tryz.ntmps32
 all_goals go_wp2_with (first | (go_at_call 69; first | (with_reducible refine (HS.out _).mono ?_; rintro e w2 ⟨rfl, ⟨nd2, rfl⟩⟩) | (with_reducible refine (HT.out _).mono ?_; rintro e w3 ⟨rfl, ⟨nd3, rfl⟩⟩)) | (go_at_call 70; refine (HV.out _ ?hbx).mono ?_; (case hbx => repeat (first | (with_reducible first | exact HB1.out | apply pw_below_drewN) | exact HB1.out)); rintro e w4 ⟨rfl, hb⟩; have HB4 := Lib.hid (below_step (by repeat (first | (with_reducible first | exact HB1.out | apply pw_below_drewN) | exact HB1.out)) hb); have hx := RowIs.below (by exact HX1.out) hb; have x12 := hx.cell (i := 12) rfl; clear hb hx) | (go_at_call 71; refine (HR.out _ HB4.out g7).mono ?_; rintro e w5 ⟨rfl, hb⟩; have HB5 := Lib.hid (below_step HB4.out hb); clear hb))
 all_goals go_ret
 all_goals exact ⟨by first | rfl | (simp [*]; done) | (simp; omega), by first | exact HB5.out | exact HB4.out | (repeat (first | (with_reducible first | exact HB1.out | apply pw_below_drewN) | exact HB1.out))⟩
end Go.Proofs.YtjlpjpjodhkpdaaGreatDoor
