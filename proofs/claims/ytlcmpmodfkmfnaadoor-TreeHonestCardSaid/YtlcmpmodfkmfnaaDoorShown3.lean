/- cartouchelaw03.shown: the document's examples hold; in the form that the print takes. -/
import Derived.Test.YtlcmpmodfkmfnaaDoorPath
import Derived.Test.YtlcmpmodfkmfnaaDoorClimb
set_option linter.unusedVariables false
set_option linter.unusedSimpArgs false
namespace Go.Proofs.YtlcmpmodfkmfnaaDoor
open Go.RowKit Go.Proofs.YtlcmpmodfkmfnaaDoorW.PrintWords

theorem hN1 : TM.halfN 1 = 1 := by unfold TM.halfN; rw [TM.halfFrom, if_neg (by decide)]
theorem hN2 : TM.halfN 2 = 1 := by unfold TM.halfN; rw [TM.halfFrom, if_neg (by decide)]
theorem hN3 : TM.halfN 3 = 2 := by unfold TM.halfN; rw [TM.halfFrom, if_pos (by decide), TM.halfFrom, if_neg (by decide)]
theorem path_len (l : List ByteArray) (i : Nat) (h : i < l.length) : (TM.pathL sumB l i).length = (TM.wayL 0 l.length i).length := by
  rw [← TM.path_way0 sumB l i h]
  simp
abbrev la : List ByteArray := [⟨#[97]⟩]
abbrev labc : List ByteArray := [⟨#[97]⟩, ⟨#[98]⟩, ⟨#[99]⟩]
theorem shown_paths : ∃ p q r : List ByteArray, tree_Path.f la 0 = some (p, 0) ∧ p.length = 0 ∧ tree_Path.f labc 2 = some (q, 0) ∧ q.length = 1 ∧ tree_Path.f labc 0 = some (r, 0) ∧ r.length = 2 := by
  have w1 : (TM.wayL 0 1 0).length = 0 := by rw [TM.wayL_nil (by decide)]; rfl
  have w2 : (TM.wayL 0 3 2).length = 1 := by
    rw [TM.wayL_left (by decide) (by rw [hN3]; decide), hN3, TM.wayL_nil (by decide)]
    rfl
  have w3 : (TM.wayL 0 3 0).length = 2 := by
    rw [TM.wayL_right (by decide) (by rw [hN3]; decide), hN3, TM.wayL_right (by decide) (by rw [hN2]; decide), hN2, TM.wayL_nil (by decide)]
    rfl
  have hs3 : ∀ s ∈ labc, s.size ≤ 562949953421311 := by
    intro s hs
    simp at hs
    rcases hs with rfl | rfl | rfl <;> decide
  refine ⟨TM.pathL sumB la 0, TM.pathL sumB labc 2, TM.pathL sumB labc 0, ?_, ?_, ?_, ?_, ?_, ?_⟩
  · unfold tree_Path.f
    rw [if_neg (by decide), if_neg (by decide), if_pos (by intro s hs; simp at hs; subst hs; decide)]
    rfl
  · rw [path_len _ _ (by decide)]; exact w1
  · unfold tree_Path.f
    rw [if_neg (by decide), if_neg (by decide), if_pos hs3]
    rfl
  · rw [path_len _ _ (by decide)]; exact w2
  · unfold tree_Path.f
    rw [if_neg (by decide), if_neg (by decide), if_pos hs3]
    rfl
  · rw [path_len _ _ (by decide)]; exact w3
theorem read_new (w : World) (l : List ByteArray) (hm : l.length ≤ maxLen) : Kd.C Kd.string (w.alloc (.cells (l.map Value.string).toArray 9)) (some ⟨w.heap.size, 0, none⟩) l.length l := by
  have h := own_new w w.heap.size 9 (l.map Value.string) (Nat.le_refl _) (by simpa using hm)
  rw [List.length_map] at h
  exact (Kd.R_reads' (Kd.R_of_own (ok := fun _ => True) (h1 := fun _ => rfl) h (fun _ _ => trivial))).2.2
set_option maxHeartbeats 2000000 in
set_option maxRecDepth 100000 in
theorem shown3_any (w : World) (hT : Tabs w) : Calls Tryd.prog 12 #[] w fun e w' => e = .returned (.bool true) ∧ Below w.heap.size w w' := by
  obtain ⟨p, q, r, h1, l1, h2, l2, h3, l3⟩ := shown_paths
  have P1 := Lib.hid (fun u (hb : Below w.heap.size w u) => tree_Path.calls (some ⟨u.heap.size, 0, none⟩) 1 la 0 p 0 (u.alloc (.cells #[.string ⟨#[97]⟩] 9)) (hT.below (hb.alloc hb.size _) hT.size) (read_new u la (by show 1 ≤ maxLen; decide)) (Nat.le_refl _) h1)
  have P2 := Lib.hid (fun u (hb : Below w.heap.size w u) => tree_Path.calls (some ⟨u.heap.size, 0, none⟩) 3 labc 2 q 0 (u.alloc (.cells #[.string ⟨#[97]⟩, .string ⟨#[98]⟩, .string ⟨#[99]⟩] 9)) (hT.below (hb.alloc hb.size _) hT.size) (read_new u labc (by show 3 ≤ maxLen; decide)) (Nat.le_refl _) h2)
  have P3 := Lib.hid (fun u (hb : Below w.heap.size w u) => tree_Path.calls (some ⟨u.heap.size, 0, none⟩) 3 labc 0 r 0 (u.alloc (.cells #[.string ⟨#[97]⟩, .string ⟨#[98]⟩, .string ⟨#[99]⟩] 9)) (hT.below (hb.alloc hb.size _) hT.size) (read_new u labc (by show 3 ≤ maxLen; decide)) (Nat.le_refl _) h3)
  have L := Lib.hid (And.intro l1 (And.intro l2 l3))
  have HB := Lib.hid (Below.refl w.heap.size w)
  clear h1 h2 h3 l1 l2 l3 hT
  go_enter Tryd.func12, Tryd.ntmps12
  go_wp2_with (go_at_call 14; refine Pause'.out ?_)
  constructor
  refine (P1.out _ HB.out).mono ?_
  rintro e u1 ⟨v1, rfl, hR1, hb1⟩
  obtain ⟨A1, c1, rfl⟩ := Kd.R_slice hR1
  rw [L.out.1]
  have HB1 := Lib.hid ((HB.out.alloc HB.out.size _).trans (hb1.mono (HB.out.alloc HB.out.size _).size))
  clear hR1 hb1 P1
  go_wp2_with (go_at_call 14; refine Pause'.out ?_)
  constructor
  refine (P2.out _ HB1.out).mono ?_
  rintro e u2 ⟨v2, rfl, hR2, hb2⟩
  obtain ⟨A2, c2, rfl⟩ := Kd.R_slice hR2
  rw [L.out.2.1]
  have HB2 := Lib.hid ((HB1.out.alloc HB1.out.size _).trans (hb2.mono (HB1.out.alloc HB1.out.size _).size))
  clear hR2 hb2 P2
  go_wp2_with (go_at_call 14; refine Pause'.out ?_)
  constructor
  refine (P3.out _ HB2.out).mono ?_
  rintro e u3 ⟨v3, rfl, hR3, hb3⟩
  obtain ⟨A3, c3, rfl⟩ := Kd.R_slice hR3
  rw [L.out.2.2]
  have HB3 := Lib.hid ((HB2.out.alloc HB2.out.size _).trans (hb3.mono (HB2.out.alloc HB2.out.size _).size))
  clear hR3 hb3 P3
  go_wp2
  go_ret
  exact ⟨rfl, HB3.out⟩
def cartouchelaw03_shown.f : Option Bool := some true
theorem cartouchelaw03_shown.calls (r : Bool) (w : World) (hT : Tabs w) (h : cartouchelaw03_shown.f = some r) :
    Calls Tryd.prog 12 #[] w fun e w' => e = .returned (.bool r) ∧ Below w.heap.size w w' := by
  obtain rfl := Option.some.inj h
  exact shown3_any w hT
theorem shown_f : cartouchelaw03_shown.f = some true := rfl
end Go.Proofs.YtlcmpmodfkmfnaaDoor
