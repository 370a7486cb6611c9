/- blake.Sum, Keyed, Hex. -/
import Derived.Test.YtocfaglcaefnoaaDoorAll
set_option linter.unusedVariables false
set_option linter.unusedSimpArgs false
namespace Go.Proofs.YtocfaglcaefnoaaDoor
open Go.RowKit

def key0 (key : Int) : Int := xr 1779033703 (xr 16842784 (key * 256))
def startA (k : Int) : Array Value := #[.int .u32 k, .int .u32 3144134277, .int .u32 1013904242, .int .u32 2773480762, .int .u32 1359893119, .int .u32 2600822924, .int .u32 528734635, .int .u32 1541459225]
theorem startA_eq (key : Int) : (u32s (startL key)).toArray = startA (key0 key) := rfl
def sumL (s : ByteArray) : List UInt8 := toldL (feedL (s.size + 1) (startL 0) s 0)
def sumB (s : ByteArray) : ByteArray := ⟨(sumL s).toArray⟩
def keyedIn (key s : ByteArray) : ByteArray := padB key ++ s
def keyedL (key s : ByteArray) : List UInt8 := toldL (feedL ((keyedIn key s).size + 1) (startL key.size) (keyedIn key s) 0)
def keyedB (key s : ByteArray) : ByteArray := ⟨(keyedL key s).toArray⟩
theorem feedL_length : ∀ (f : Nat) (h : List Int) (s : ByteArray) (t : Int), h.length = 8 → (feedL f h s t).length = 8
  | 0, _, _, _, hh => hh
  | f + 1, h, s, t, hh => by
    unfold feedL
    split
    · exact feedL_length f _ _ _ (blockL_length _ _ _ _)
    · exact blockL_length _ _ _ _
theorem sumL_length (s : ByteArray) : (sumL s).length = 32 := by
  rw [sumL, toldL_length, feedL_length _ _ _ _ (startL_length 0)]
theorem sumB_size (s : ByteArray) : (sumB s).size = 32 := by
  show (sumL s).toArray.size = 32
  rw [List.size_toArray, sumL_length]
theorem keyedL_length (key s : ByteArray) : (keyedL key s).length = 32 := by
  rw [keyedL, toldL_length, feedL_length _ _ _ _ (startL_length _)]
theorem keyedB_size (key s : ByteArray) : (keyedB key s).size = 32 := by
  show (keyedL key s).toArray.size = 32
  rw [List.size_toArray, keyedL_length]

set_option maxHeartbeats 1000000 in
theorem sum_any (s : ByteArray) (hs : s.size ≤ 140737488355328) (w : World) (hT : Tabs w) :
    Calls Tryd.prog 16 #[.string s] w fun e w' => e = .returned (.string (sumB s)) ∧ Below w.heap.size w w' := by
  have hst := start_ok 0 (by omega) (by omega) w hT
  rw [startA_eq] at hst
  have hall := fun (u : World) (hu : Tabs u) => all_any (startL 0) (startL_length 0) s hs u hu
  rw [startA_eq] at hall
  change ∀ (u : World), Tabs u → Calls _ _ _ _ (fun e w' => e = Ending.returned (Value.string (sumB s)) ∧ Below u.heap.size u w') at hall
  generalize key0 0 = k0 at *
  unfold startA at hst hall
  generalize sumB s = out at *
  have HS := Lib.hid hst; have HA := Lib.hid hall
  clear hst hall
  go_enter Tryd.func16, Tryd.ntmps16
  go_wp2_with (go_at_call 12; refine HS.out.mono ?_)
  rintro e u ⟨rfl, hb⟩
  go_wp2_with (go_at_call 28; refine (HA.out _ (hT.below (hb.alloc hb.size _) hT.size)).mono ?_)
  rintro e u' ⟨rfl, hb2⟩
  have hb3 := (hb.alloc hb.size _).trans (hb2.mono (by have := hb.size; simp; omega))
  clear hb hb2
  go_wp2
  go_ret
  exact ⟨rfl, hb3⟩

set_option maxHeartbeats 1000000 in
theorem keyed_no (key s : ByteArray) (hk : key.size = 0 ∨ 32 < key.size) (w : World) :
    Calls Tryd.prog 20 #[.string key, .string s] w fun e w' => e = .returned (.tuple #[.string .empty, .int .i64 1]) ∧ w = w' := by
  rcases hk with hk | hk
  · obtain rfl : key = ByteArray.empty := by
      apply ByteArray.ext
      exact Array.eq_empty_of_size_eq_zero hk
    go_enter Tryd.func20, Tryd.ntmps20
    go_wp2
    go_ret2
    exact ⟨rfl, rfl⟩
  · have hne : key.toList.isEmpty = false := by
      rw [Lib.toList_data]
      cases h : key.data.toList with
      | nil =>
        have : key.data.toList.length = 0 := by rw [h]; rfl
        rw [Array.length_toList] at this
        have h2 : key.size = key.data.size := rfl
        omega
      | cons a l => rfl
    go_enter Tryd.func20, Tryd.ntmps20
    go_wp2
    go_ret2
    exact ⟨rfl, rfl⟩

set_option maxHeartbeats 1000000 in
theorem keyed_ok (key s : ByteArray) (hk1 : 1 ≤ key.size) (hk2 : key.size ≤ 32) (hs : s.size ≤ 140737488351232) (w : World) (hT : Tabs w) :
    Calls Tryd.prog 20 #[.string key, .string s] w fun e w' => e = .returned (.tuple #[.string (keyedB key s), .int .i64 0]) ∧ Below w.heap.size w w' := by
  have hne : key.toList.isEmpty = false := by
    rw [Lib.toList_data]
    cases h : key.data.toList with
    | nil =>
      have : key.data.toList.length = 0 := by rw [h]; rfl
      rw [Array.length_toList] at this
      have h2 : key.size = key.data.size := rfl
      omega
    | cons a l => rfl
  have hst := start_ok key.size (by omega) (by omega) w hT
  rw [startA_eq] at hst
  have hps : (padB key).size = 64 := padB_size key (by omega)
  have hin : (keyedIn key s).size ≤ 140737488355328 := by
    unfold keyedIn
    rw [ByteArray.size_append, hps]
    omega
  have hall := fun (u : World) (hu : Tabs u) => all_any (startL key.size) (startL_length _) (keyedIn key s) hin u hu
  rw [startA_eq] at hall
  change ∀ (u : World), Tabs u → Calls _ _ _ _ (fun e w' => e = Ending.returned (Value.string (keyedB key s)) ∧ Below u.heap.size u w') at hall
  generalize key0 key.size = k0 at *
  unfold startA at hst hall
  have HS := Lib.hid hst; have HA := Lib.hid hall
  clear hst hall hin
  have l1 : ¬ 9223372036854775807 < key.size + (Lib.repeatL [(0 : UInt8)] (64 - key.size)).length := by rw [repeat0_length]; omega
  have l2 : ¬ 9223372036854775807 < key.size + (Lib.repeatL [(0 : UInt8)] (64 - key.size)).length + s.size := by rw [repeat0_length]; omega
  have e64 : 64 - (key.size : Int) = ((64 - key.size : Nat) : Int) := by omega
  clear hps
  go_enter Tryd.func20, Tryd.ntmps20
  go_wp2_with (go_at_call 12; refine HS.out.mono ?_)
  rintro e U ⟨rfl, hb⟩
  go_wp2_with fail
  have hR : RowIs (U.alloc (.cells (u32s [k0, 3144134277, 1013904242, 2773480762, 1359893119, 2600822924, 528734635, 1541459225]).toArray 24)) U.heap.size 24 (u32s [k0, 3144134277, 1013904242, 2773480762, 1359893119, 2600822924, 528734635, 1541459225]) := RowIs.new _ _ _
  have hB := hb.alloc hb.size (.cells (u32s [k0, 3144134277, 1013904242, 2773480762, 1359893119, 2600822924, 528734635, 1541459225]).toArray 24)
  have e0 : (u32s [k0, 3144134277, 1013904242, 2773480762, 1359893119, 2600822924, 528734635, 1541459225]).toArray = #[.int .u32 k0, .int .u32 3144134277, .int .u32 1013904242, .int .u32 2773480762, .int .u32 1359893119, .int .u32 2600822924, .int .u32 528734635, .int .u32 1541459225] := rfl
  rw [e0] at hR hB
  generalize World.alloc _ _ = W at *
  refine Fam.wp_region_fam [5, 9] (fun m u => RowIs u U.heap.size 24 (u32s [k0, 3144134277, 1013904242, 2773480762, 1359893119, 2600822924, 528734635, 1541459225]) ∧ Below w.heap.size w u) (by kernel_rfl) (by kernel_rfl) ⟨hR, hB.drew⟩ ?_
  refine FamRow.load_ 24 (.tmp 6) _ 24 (u32s [k0, 3144134277, 1013904242, 2773480762, 1359893119, 2600822924, 528734635, 1541459225]) _ 8 rfl rfl rfl rfl Tryd.underlying24 rfl size8 rfl (fun m' hm u hu => ?_) ?_
  · exact hu.1
  simp only [Act.put, List.setIfInBounds_toArray, List.set_cons_zero, List.set_cons_succ]
  refine Fam.pure_ (by rfl) (by rfl) rfl (fun K hK => ?_)
  go_big_quiet_op
  refine hK _ ?_
  clear hK K
  refine Fam.pure_ (by rfl) (by rfl) rfl (fun K hK => ?_)
  go_big_quiet_op
  refine hK _ ?_
  clear hK K
  refine Fam.any_ ?_ (by rfl) (by rfl) (fun w => ?_) ?_
  rotate_left
  · go_simp; rfl
  simp only [Act.put, List.setIfInBounds_toArray, List.set_cons_zero, List.set_cons_succ]
  refine Fam.pure_ (by rfl) (by rfl) rfl (fun K hK => ?_)
  go_big_quiet_op
  refine hK _ ?_
  clear hK K
  refine Fam.effCall_ (.string ⟨(Lib.repeatL [0] (64 - key.size)).toArray⟩) 32 ?_ (by rfl) (by rfl) (fun w => ?_) (fun u hu => ?_) ?_
  rotate_left
  · go_simp; rfl
  · exact (Tryd.strings_Repeat ⟨#[0]⟩ (64 - key.size) u (by omega) (by show 1 * _ ≤ _; omega)).mono fun e u' ⟨he, hb⟩ => ⟨he, hu.1.below hb, hu.2.trans (hb.mono hu.2.size)⟩
  simp only [Act.put, List.setIfInBounds_toArray, List.set_cons_zero, List.set_cons_succ]
  refine Fam.pure_ (by rfl) (by rfl) rfl (fun K hK => ?_)
  go_big_quiet_op
  refine hK _ ?_
  clear hK K
  refine Fam.pure_ (by rfl) (by rfl) rfl (fun K hK => ?_)
  go_big_quiet_op
  refine hK _ ?_
  clear hK K
  refine Fam.pure_ (by rfl) (by rfl) rfl (fun K hK => ?_)
  go_big_quiet_op
  refine hK _ ?_
  clear hK K
  refine Fam.effCall_ (.string (keyedB key s)) 28 ?_ (by rfl) (by rfl) (fun w => ?_) (fun u hu => ?_) ?_
  rotate_left
  · go_simp; rfl
  · exact (HA.out u (hT.below hu.2 hT.size)).mono fun e u' ⟨he, hb⟩ => ⟨he, hu.1.below hb, hu.2.trans (hb.mono hu.2.size)⟩
  simp only [Act.put, List.setIfInBounds_toArray, List.set_cons_zero, List.set_cons_succ]
  refine Fam.pure_ (by rfl) (by rfl) rfl (fun K hK => ?_)
  go_big_quiet_op
  refine hK _ ?_
  clear hK K
  refine Fam.pure_ (by rfl) (by rfl) rfl (fun K hK => ?_)
  go_big_quiet_op
  refine hK _ ?_
  clear hK K
  refine Fam.nil_ ?_
  rintro u2 ⟨_, hu2⟩
  go_wp2
  go_ret2
  exact ⟨rfl, hu2⟩
end Go.Proofs.YtocfaglcaefnoaaDoor
