/- cartoucheref02.Sum, Keyed. -/
import Derived.Test.YtocfaglcaefnoaaDoorRefAll
import Derived.Test.YtocfaglcaefnoaaDoorSum
set_option linter.unusedVariables false
set_option linter.unusedSimpArgs false
namespace Go.Proofs.YtocfaglcaefnoaaDoor
open Go.RowKit

set_option maxHeartbeats 1000000 in
theorem rsum_any (s : ByteArray) (hs : s.size ≤ 140737488355328) (w : World) :
    Calls Tryd.prog 17 #[.string s] w fun e w' => e = .returned (.string (sumB s)) ∧ Below w.heap.size w w' := by
  have hst := rstart_ok 0 (by omega) (by omega) w
  rw [startA_eq] at hst
  have hall := fun (u : World) => rall_any (startL 0) (startL_length 0) s hs u
  rw [startA_eq] at hall
  change ∀ (u : World), Calls _ _ _ _ (fun e w' => e = Ending.returned (Value.string (sumB s)) ∧ Below u.heap.size u w') at hall
  generalize key0 0 = k0 at *
  unfold startA at hst hall
  generalize sumB s = out at *
  have HS := Lib.hid hst; have HA := Lib.hid hall
  clear hst hall
  go_enter Tryd.func17, Tryd.ntmps17
  go_wp2_with (go_at_call 13; refine HS.out.mono ?_)
  rintro e u ⟨rfl, hb⟩
  go_wp2_with (go_at_call 29; refine (HA.out _).mono ?_)
  rintro e u' ⟨rfl, hb2⟩
  have hb3 := (hb.alloc hb.size _).trans (hb2.mono (by have := hb.size; simp; omega))
  clear hb hb2
  go_wp2
  go_ret
  exact ⟨rfl, hb3⟩

set_option maxHeartbeats 1000000 in
theorem rkeyed_no (key s : ByteArray) (hk : key.size = 0 ∨ 32 < key.size) (w : World) :
    Calls Tryd.prog 21 #[.string key, .string s] w fun e w' => e = .returned (.tuple #[.string .empty, .int .i64 1]) ∧ w = w' := by
  rcases hk with hk | hk
  · have h1 : (key.size : Int) < 1 := by omega
    go_enter Tryd.func21, Tryd.ntmps21
    go_wp2
    go_ret2
    exact ⟨rfl, rfl⟩
  · have h1 : ¬ (key.size : Int) < 1 := by omega
    go_enter Tryd.func21, Tryd.ntmps21
    go_wp2
    go_ret2
    exact ⟨rfl, rfl⟩

set_option maxHeartbeats 1000000 in
theorem rkeyed_ok (key s : ByteArray) (hk1 : 1 ≤ key.size) (hk2 : key.size ≤ 32) (hs : s.size ≤ 140737488351232) (w : World) :
    Calls Tryd.prog 21 #[.string key, .string s] w fun e w' => e = .returned (.tuple #[.string (keyedB key s), .int .i64 0]) ∧ Below w.heap.size w w' := by
  have h1 : ¬ (key.size : Int) < 1 := by omega
  have hst := rstart_ok key.size (by omega) (by omega) w
  rw [startA_eq] at hst
  have hps : (padB key).size = 64 := padB_size key (by omega)
  have hin : (keyedIn key s).size ≤ 140737488355328 := by
    unfold keyedIn
    rw [ByteArray.size_append, hps]
    omega
  have hall := fun (u : World) => rall_any (startL key.size) (startL_length _) (keyedIn key s) hin u
  rw [startA_eq] at hall
  change ∀ (u : World), Calls _ _ _ _ (fun e w' => e = Ending.returned (Value.string (keyedB key s)) ∧ Below u.heap.size u w') at hall
  generalize key0 key.size = k0 at *
  unfold startA at hst hall
  have HS := Lib.hid hst; have HA := Lib.hid hall
  clear hst hall hin
  have l1 : ¬ 9223372036854775807 < (padB key).size + s.size := by omega
  clear hps
  go_enter Tryd.func21, Tryd.ntmps21
  go_wp2_with (go_at_call 13; refine Pause'.out ?_)
  constructor
  refine HS.out.mono ?_
  rintro e U ⟨rfl, hb⟩
  go_wp2_with fail
  have hR : RowIs (U.alloc (.cells (u32s [k0, 3144134277, 1013904242, 2773480762, 1359893119, 2600822924, 528734635, 1541459225]).toArray 24)) U.heap.size 24 (u32s [k0, 3144134277, 1013904242, 2773480762, 1359893119, 2600822924, 528734635, 1541459225]) := RowIs.new _ _ _
  have hB := hb.alloc hb.size (.cells (u32s [k0, 3144134277, 1013904242, 2773480762, 1359893119, 2600822924, 528734635, 1541459225]).toArray 24)
  have e0 : (u32s [k0, 3144134277, 1013904242, 2773480762, 1359893119, 2600822924, 528734635, 1541459225]).toArray = #[.int .u32 k0, .int .u32 3144134277, .int .u32 1013904242, .int .u32 2773480762, .int .u32 1359893119, .int .u32 2600822924, .int .u32 528734635, .int .u32 1541459225] := rfl
  rw [e0] at hR hB
  generalize World.alloc _ _ = W at *
  refine Fam.wp_region_fam [2, 5] (fun m u => RowIs u U.heap.size 24 (u32s [k0, 3144134277, 1013904242, 2773480762, 1359893119, 2600822924, 528734635, 1541459225]) ∧ Below w.heap.size w u) (by kernel_rfl) (by kernel_rfl) ⟨hR, hB.drew⟩ ?_
  refine FamRow.load_ 24 (.tmp 6) _ 24 (u32s [k0, 3144134277, 1013904242, 2773480762, 1359893119, 2600822924, 528734635, 1541459225]) _ 8 rfl rfl rfl rfl Tryd.underlying24 rfl size8 rfl (fun m' hm u hu => ?_) ?_
  · exact hu.1
  simp only [Act.put, List.setIfInBounds_toArray, List.set_cons_zero, List.set_cons_succ]
  refine Fam.pure_ (by rfl) (by rfl) rfl (fun K hK => ?_)
  go_big_quiet_op
  refine hK _ ?_
  clear hK K
  refine Fam.effCall_ (.string (padB key)) 33 ?_ (by rfl) (by rfl) (fun w => ?_) (fun u hu => ?_) ?_
  rotate_left
  · go_simp; rfl
  · exact (pad_any key (by omega) u).mono fun e u' ⟨he, hb⟩ => ⟨he, hu.1.below hb, hu.2.trans (hb.mono hu.2.size)⟩
  simp only [Act.put, List.setIfInBounds_toArray, List.set_cons_zero, List.set_cons_succ]
  refine Fam.pure_ (by rfl) (by rfl) rfl (fun K hK => ?_)
  go_big_quiet_op
  refine hK _ ?_
  clear hK K
  refine Fam.pure_ (by rfl) (by rfl) rfl (fun K hK => ?_)
  go_big_quiet_op
  refine hK _ ?_
  clear hK K
  refine Fam.effCall_ (.string (keyedB key s)) 29 ?_ (by rfl) (by rfl) (fun w => ?_) (fun u hu => ?_) ?_
  rotate_left
  · go_simp; rfl
  · exact (HA.out u).mono fun e u' ⟨he, hb⟩ => ⟨he, hu.1.below hb, hu.2.trans (hb.mono hu.2.size)⟩
  simp only [Act.put, List.setIfInBounds_toArray, List.set_cons_zero, List.set_cons_succ]
  refine Fam.pure_ (by rfl) (by rfl) rfl (fun K hK => ?_)
  go_big_quiet_op
  refine hK _ ?_
  clear hK K
  refine Fam.pure_ (by rfl) (by rfl) rfl (fun K hK => ?_)
  go_big_quiet_op
  refine hK _ ?_
  clear hK K
  refine Fam.nil_ ?_
  rintro u2 ⟨_, hu2⟩
  go_wp2
  go_ret2
  exact ⟨rfl, hu2⟩
end Go.Proofs.YtocfaglcaefnoaaDoor
