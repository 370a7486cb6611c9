/- THE LAWS OF PASSES, IN PLAIN LEAN. -/
import Derived.Test.YtllkgojhpbacmaaDoorPassB
set_option linter.unusedVariables false
set_option linter.unusedSimpArgs false
namespace Go.Proofs.YtllkgojhpbacmaaDoor
open Go.RowKit Go.Proofs.YtllkgojhpbacmaaDoor.Q Go.Proofs.YtllkgojhpbacmaaDoorW.PrintWords

theorem issues_law (key t : ByteArray) (u : Nat) (s o : ByteArray) (hu : u < 18446744073709551616) (hs : s.size ≤ 140737488351232) : ∃ k, cartouchelaw05_PassIssues.f k key t (u : Int) s o = some true := by
  refine Ev.rounds (g := fun k => cartouchelaw05_PassIssues.f k key t (u : Int) s o) ?_
  unfold cartouchelaw05_PassIssues.f
  refine Ev.bind shown_f (Ev.bind (issue_f key t u hu) (Ev.bind (rissue_f key t u hu) (Ev.bind (take_f s) (Ev.bind (rtake_f s) ?_))))
  simp only [if_true]
  refine Ev.bind (equal_f s o (by omega)) ?_
  have e : (s.toList == o.toList) = decide (s = o) := by
    rw [Bool.eq_iff_iff, beq_iff_eq, decide_eq_true_iff]
    exact toList_inj
  simp only [e, beq_self_eq_true]
  exact Ev.now _
theorem checks_law (key s : ByteArray) (now : Int) : ∃ k, cartouchelaw05_PassChecks.f k key s now = some true := by
  refine Ev.rounds (g := fun k => cartouchelaw05_PassChecks.f k key s now) ?_
  unfold cartouchelaw05_PassChecks.f
  refine Ev.bind shown_f (Ev.bind (check_f key s now) (Ev.bind (rcheck_f key s now) ?_))
  simp only [if_true, beq_self_eq_true]
  exact Ev.now _
theorem lasts_law (key t : ByteArray) (u : Nat) (now : Int) (hu : u < 18446744073709551616) : ∃ k, cartouchelaw05_PassLasts.f k key t (u : Int) now = some true := by
  refine Ev.rounds (g := fun k => cartouchelaw05_PassLasts.f k key t (u : Int) now) ?_
  unfold cartouchelaw05_PassLasts.f
  refine Ev.bind shown_f (Ev.bind (issue_f key t u hu) ?_)
  rcases issueR_ok key t u with ⟨h, hb⟩ | ⟨h, h1, h2, hk⟩
  · rw [h]
    simp only [if_neg (show ¬ (1 : Int) = 0 by decide), if_true]
    unfold badKey at hb
    by_cases c1 : (key.size : Int) < 1
    · simp only [if_pos c1]; exact Ev.now _
    simp only [if_neg c1]
    by_cases c2 : (key.size : Int) > 32
    · simp only [if_pos c2]; exact Ev.now _
    simp only [if_neg c2]
    by_cases c3 : (t.size : Int) < 1
    · simp only [if_pos c3]; exact Ev.now _
    simp only [if_neg c3, decide_eq_true (show (t.size : Int) > 16 by omega)]
    exact Ev.now _
  rw [h]
  simp only [if_true]
  have hc := check_f key (saidB t u ++ keyedB key (sealIn t u)) now
  rw [check_own key t _ u now h1 h2 hu (keyedB_size _ _), if_neg (fun h => h.elim hk (fun h => h rfl))] at hc
  refine Ev.bind hc ?_
  by_cases hl : (u : Int) < now
  · simp only [if_pos hl, if_pos (show now > (u : Int) from hl), if_pos (show (⟨#[]⟩ : ByteArray).toList = [] from toList_nil.2 rfl)]
    exact Ev.now _
  · simp only [if_neg hl, if_neg (show ¬ now > (u : Int) from hl), if_true]
    exact Ev.now _
theorem back_law (key t : ByteArray) (u : Nat) (hu : u < 18446744073709551616) : ∃ k, cartouchelaw05_PassBack.f k key t (u : Int) = some true := by
  refine Ev.rounds (g := fun k => cartouchelaw05_PassBack.f k key t (u : Int)) ?_
  unfold cartouchelaw05_PassBack.f
  refine Ev.bind shown_f (Ev.bind (issue_f key t u hu) ?_)
  rcases issueR_ok key t u with ⟨h, hb⟩ | ⟨h, h1, h2, hk⟩
  · rw [h]
    simp only [if_neg (show ¬ (1 : Int) = 0 by decide)]
    exact Ev.now _
  rw [h]
  simp only [if_true]
  have ht := take_f (saidB t u ++ keyedB key (sealIn t u))
  rw [back_said t _ u h1 h2 hu, if_pos (keyedB_size _ _)] at ht
  refine Ev.bind ht ?_
  simp only [if_true]
  simp only [if_pos (show ((keyedB key (sealIn t u)).size : Int) = 32 by rw [keyedB_size]; rfl)]
  exact Ev.now _
theorem own_law (key other t : ByteArray) (u : Nat) (hu : u < 18446744073709551616) : ∃ k, cartouchelaw05_PassOwn.f k key other t (u : Int) = some true := by
  refine Ev.rounds (g := fun k => cartouchelaw05_PassOwn.f k key other t (u : Int)) ?_
  unfold cartouchelaw05_PassOwn.f
  refine Ev.bind shown_f (Ev.bind (issue_f key t u hu) (Ev.bind (issue_f other t u hu) ?_))
  rcases issueR_ok key t u with ⟨h, hb⟩ | ⟨h, h1, h2, hk⟩
  · rw [h]
    have hc := check_f other ⟨#[]⟩ 0
    have e : checkR other ⟨#[]⟩ 0 = (⟨#[]⟩, 3) := by
      unfold checkR takeR takeTextR takeLenR
      rfl
    rw [e] at hc
    refine Ev.bind hc ?_
    simp only [if_neg (show ¬ (1 : Int) = 0 by decide), if_neg (show ¬ (3 : Int) = 0 by decide), if_true]
    exact Ev.now _
  rw [h]
  have hc := check_f other (saidB t u ++ keyedB key (sealIn t u)) 0
  rw [check_own other t _ u 0 h1 h2 hu (keyedB_size _ _)] at hc
  refine Ev.bind hc ?_
  simp only [if_true]
  rcases issueR_ok other t u with ⟨h', hb'⟩ | ⟨h', h1', h2', hk'⟩
  · rw [h']
    simp only [if_neg (show ¬ (1 : Int) = 0 by decide)]
    exact Ev.now _
  rw [h']
  simp only [if_true]
  have hnl : ¬ (u : Int) < 0 := by omega
  by_cases he : keyedB key (sealIn t u) = keyedB other (sealIn t u)
  · rw [if_neg (fun h => h.elim hk' (fun h => h he)), if_neg hnl, he]
    simp only [beq_self_eq_true]
    exact Ev.now _
  · rw [if_pos (show badKey other ∨ keyedB key (sealIn t u) ≠ keyedB other (sealIn t u) from .inr he)]
    have hne : ((saidB t u ++ keyedB key (sealIn t u)).toList == (saidB t u ++ keyedB other (sealIn t u)).toList) = false := by
      rw [beq_eq_false_iff_ne]
      intro h
      have h2 := congrArg (fun s : ByteArray => s.data.toList) (toList_inj.1 h)
      simp only [ByteArray.data_append, Array.toList_append, List.append_cancel_left_eq] at h2
      exact he (ba_ext h2)
    rw [hne]
    exact Ev.now _

theorem wf_u64 {a : Int} (h : (Lit.int .u64 a).wf = true) : ∃ n : Nat, a = n ∧ n < 18446744073709551616 := by
  have h1 : 0 ≤ a ∧ a < 18446744073709551616 := by
    have h2 : IntKind.u64.min ≤ a ∧ a ≤ IntKind.u64.max := by simpa [Lit.wf] using h
    have e1 : IntKind.u64.min = 0 := by decide
    have e2 : IntKind.u64.max = 18446744073709551615 := by decide
    omega
  exact ⟨a.toNat, by omega, by omega⟩
theorem PassIssues_pure (a b : ByteArray) (u : Int) (s o : ByteArray) (h : a.size ≤ 140737488351232 ∧ b.size ≤ 140737488351232 ∧ (Lit.int .u64 u).wf = true ∧ s.size ≤ 140737488351232 ∧ o.size ≤ 140737488351232) : ∃ k, cartouchelaw05_PassIssues.f k a b u s o = some true := by
  obtain ⟨_, _, hu, hs, _⟩ := h
  obtain ⟨n, rfl, hn⟩ := wf_u64 hu
  exact issues_law a b n s o hn hs
theorem PassChecks_pure (a b : ByteArray) (u : Int) (_ : a.size ≤ 140737488351232) (_ : b.size ≤ 140737488351232) (h : (Lit.int .u64 u).wf = true) : ∃ k, cartouchelaw05_PassChecks.f k a b u = some true := checks_law a b u
theorem PassLasts_pure (a b : ByteArray) (u n : Int) (h : a.size ≤ 140737488351232 ∧ b.size ≤ 140737488351232 ∧ (Lit.int .u64 u).wf = true ∧ (Lit.int .u64 n).wf = true) : ∃ k, cartouchelaw05_PassLasts.f k a b u n = some true := by
  obtain ⟨_, _, hu, _⟩ := h
  obtain ⟨m, rfl, hm⟩ := wf_u64 hu
  exact lasts_law a b m n hm
theorem PassBack_pure (a b : ByteArray) (u : Int) (_ : a.size ≤ 140737488351232) (_ : b.size ≤ 140737488351232) (hu : (Lit.int .u64 u).wf = true) : ∃ k, cartouchelaw05_PassBack.f k a b u = some true := by
  obtain ⟨m, rfl, hm⟩ := wf_u64 hu
  exact back_law a b m hm
theorem PassOwn_pure (a b c : ByteArray) (u : Int) (h : a.size ≤ 140737488351232 ∧ b.size ≤ 140737488351232 ∧ c.size ≤ 140737488351232 ∧ (Lit.int .u64 u).wf = true) : ∃ k, cartouchelaw05_PassOwn.f k a b c u = some true := by
  obtain ⟨_, _, _, hu⟩ := h
  obtain ⟨m, rfl, hm⟩ := wf_u64 hu
  exact own_law a b c m hm
end Go.Proofs.YtllkgojhpbacmaaDoor
