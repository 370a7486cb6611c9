/- THE LAW PassTurned: plain law and walk. -/
import Derived.Test.YtllkgojhpbacmaaDoorPassLaws
import Derived.WalkSpells
import Derived.Lib.Hide
set_option linter.unusedVariables false
set_option linter.unusedSimpArgs false
namespace Go.Proofs.YtllkgojhpbacmaaDoor
open Go.RowKit Go.Proofs.YtllkgojhpbacmaaDoor.Q Go.Proofs.YtllkgojhpbacmaaDoorW.PrintWords

/-- A text of which byte number n is b. -/
def turnB (s : ByteArray) (n : Nat) (b : Int) : ByteArray := strOfNums ((bytesOf s).set n b)
theorem turn_bytes (W : World) (s : ByteArray) (n : Nat) (b : Int) (hs : s.size ≤ 1000) (hn : n < s.size) :
    (convert 43 9 (.slice (some ⟨W.heap.size, 0, none⟩) s.size (grownCap W s.size 0 5))).run Tryd.prog ((Lib.bytesWorld W 5 s).setCell ⟨W.heap.size, n, none⟩ (.int .u8 b)) =
      .ok (.string (turnB s n b)) ((Lib.bytesWorld W 5 s).setCell ⟨W.heap.size, n, none⟩ (.int .u8 b)) := by
  have hr := bytes_reads W 5 s (by omega)
  have hlen := bytesOf_length s
  have hr2 : ReadsInt ((Lib.bytesWorld W 5 s).setCell ⟨W.heap.size, n, none⟩ (.int .u8 b)) .u8 (some ⟨W.heap.size, 0, none⟩) s.size ((bytesOf s).set n b) := by
    refine ⟨by rw [List.length_set, hlen], by omega, fun _ => ⟨_, rfl, fun j hj => ?_⟩⟩
    obtain ⟨ad, e, hc⟩ := hr.2.2 (by omega)
    cases e
    have h1 := hc j hj
    rw [add_plain] at h1 ⊢
    by_cases hjn : j = n
    · subst hjn
      rw [World.cell?_setCell_same' _ _ _ (by rw [h1]; rfl), List.getD_eq_getElem?_getD, List.getElem?_set_self (by rw [hlen]; exact hj)]
      rfl
    · have hne : (⟨W.heap.size, n, none⟩ : Addr) ≠ ⟨W.heap.size, j, none⟩ := fun h => hjn (by injection h with _ h _; exact h.symm)
      have h3 := World.cell?_setCell_other (w := Lib.bytesWorld W 5 s) (v := .int .u8 b) (h := hne)
      rw [h3, h1, List.getD_eq_getElem?_getD, List.getD_eq_getElem?_getD, List.getElem?_set_ne (fun h => hjn h.symm)]
  exact Kd.C_string Tryd.underlying43 Tryd.underlying5 Tryd.underlying9 (Kd.C_of_reads (d := (0 : Int)) (h1 := fun _ => rfl) hr2)
theorem bytes_free (W : World) (s : ByteArray) (n : Nat) (hn : n < s.size) : (Lib.bytesWorld W 5 s).frozen? ⟨W.heap.size, n, none⟩ = false := by
  have hblk := Lib.bytesWorld_at_new W 5 s
  have hc := Lib.bytesWorld_cell W 5 s n hn
  rw [cell_of_row _ W.heap.size n _ _ _ hblk] at hc
  have hsz := (Array.getElem?_eq_some_iff.1 hc).1
  unfold World.frozen?
  simp only [hblk]
  simp
  omega
/-- Turned behind a beginning. -/
theorem turn_said (a v : ByteArray) (n : Nat) (b : Int) (hn : n < v.size) : turnB (a ++ v) (a.size + n) b = a ++ turnB v n b := by
  have hid : ∀ s : ByteArray, (strOfNums (bytesOf s)).data.toList = s.data.toList := fun s => by
    rw [strOfNums_data]
    unfold bytesOf
    rw [List.map_map]
    conv => rhs; rw [← List.map_id s.data.toList]
    refine List.map_congr_left fun x _ => ?_
    simp
  apply ba_ext
  rw [ByteArray.data_append, Array.toList_append, ← hid a]
  unfold turnB
  rw [strOfNums_data, strOfNums_data, strOfNums_data]
  have e : bytesOf (a ++ v) = bytesOf a ++ bytesOf v := by
    unfold bytesOf
    rw [ByteArray.data_append, Array.toList_append, List.map_append]
  rw [e, ← bytesOf_length a, List.set_append_right _ _ (by omega), Nat.add_sub_cancel_left, List.map_append]
theorem turnB_size (s : ByteArray) (n : Nat) (b : Int) : (turnB s n b).size = s.size := by
  unfold turnB
  rw [strOfNums_size, List.length_set, bytesOf_length]
theorem turnB_ne (s : ByteArray) (n : Nat) (b : Int) (h0 : 0 ≤ b) (h1 : b < 256) (hn : n < s.size) (hne : bt s (n : Int) ≠ b) : turnB s n b ≠ s := by
  intro h
  apply hne
  rw [bt_get]
  have h2 := strOf_get ((bytesOf s).set n b) n (fun x hx => by
    rcases List.mem_or_eq_of_mem_set hx with hx | rfl
    · unfold bytesOf at hx
      obtain ⟨y, _, rfl⟩ := List.mem_map.1 hx
      have := y.toNat_lt
      omega
    · exact ⟨h0, h1⟩) (by rw [List.length_set, bytesOf_length]; exact hn)
  unfold turnB at h
  rw [h] at h2
  rw [h2, List.getD_eq_getElem?_getD, List.getElem?_set_self (by rw [bytesOf_length]; exact hn)]
  rfl
/-- What Check says of an issued pass that was turned, or is longer, or shorter. -/
theorem turned_law (key t : ByteArray) (u : Nat) (a : Nat) (b : Int) (hu : u < 18446744073709551616) (h1 : 1 ≤ t.size) (h2 : t.size ≤ 16) (ha : a < 32) (h0 : 0 ≤ b) (hb : b < 256)
    (hne : bt (saidB t u ++ keyedB key (sealIn t u)) (((saidB t u).size + a : Nat) : Int) ≠ b) :
    checkR key (turnB (saidB t u ++ keyedB key (sealIn t u)) ((saidB t u).size + a) b) 0 = (⟨#[]⟩, 10) ∧
    checkR key ((saidB t u ++ keyedB key (sealIn t u)) ++ ⟨#[120]⟩) 0 = (⟨#[]⟩, 3) ∧
    checkR key ((saidB t u ++ keyedB key (sealIn t u)).extract 0 ((saidB t u ++ keyedB key (sealIn t u)).size - 1)) 0 = (⟨#[]⟩, 3) := by
  have hv := keyedB_size key (sealIn t u)
  generalize hK : keyedB key (sealIn t u) = v at *
  refine ⟨?_, ?_, ?_⟩
  · have hne2 : bt v (a : Int) ≠ b := by
      rw [bt_get] at hne ⊢
      rw [ByteArray.data_append, Array.toList_append, List.getD_eq_getElem?_getD, List.getElem?_append_right (by rw [ba_size]; omega), ba_size, Nat.add_sub_cancel_left, ← List.getD_eq_getElem?_getD] at hne
      exact hne
    have hne3 : turnB v a b ≠ keyedB key (sealIn t u) := by
      rw [hK]
      exact turnB_ne v a b h0 hb (by omega) hne2
    rw [turn_said _ _ _ _ (by omega), check_own key t _ u 0 h1 h2 hu (by rw [turnB_size]; exact hv), if_pos (.inr hne3)]
  · rw [ByteArray.append_assoc, check_form key t _ u 0 h1 h2 hu]
    rw [ByteArray.size_append, hv]
    decide
  · have e : (saidB t u ++ v).extract 0 ((saidB t u ++ v).size - 1) = saidB t u ++ v.extract 0 31 := by
      apply ba_ext
      rw [ext_list, ByteArray.data_append, ByteArray.data_append, Array.toList_append, Array.toList_append, ext_list, List.drop_zero, List.drop_zero, ByteArray.size_append, hv, List.take_append, ba_size]
      rw [List.take_of_length_le (by rw [ba_size]; omega), show (saidB t u).size + 32 - 1 - (saidB t u).size = 31 by omega]
    rw [e, check_form key t _ u 0 h1 h2 hu]
    rw [extract_size_le _ _ _ (by omega)]
    decide
theorem index_bt (S : ByteArray) (n : Nat) (hn : n < S.size) (W : World) : (Instr.index 9 (.string S) (.int .i64 (n : Int))).run Tryd.prog W = .ok (.int .u8 (bt S (n : Int))) W := by
  have h0 : (0 : Int) ≤ (n : Int) := by omega
  have h1 : (n : Int) < (S.size : Int) := by omega
  have hb := bt_at S (n : Int)
  simp only [Int.toNat_natCast] at hb
  have hb := hb hn
  rw [← hb]
  go_simp
set_option maxHeartbeats 2000000 in
set_option maxRecDepth 100000 in
theorem turned_walk (key t : ByteArray) (u : Nat) (at_ b : Int) (hu : u < 18446744073709551616) (ha0 : -9223372036854775808 ≤ at_) (ha1 : at_ ≤ 9223372036854775807) (hb0 : 0 ≤ b) (hb1 : b < 256) (w : World) (hT : Tabs w) :
    Calls Tryd.prog 6 #[.agg #[.string key, .string t, .int .u64 u, .int .i64 at_, .int .u8 b]] w fun e w' => e = .returned (.bool true) ∧ Below w.heap.size w w' := by
  obtain ⟨K1, hs⟩ := shown_f
  obtain ⟨K2, hi⟩ := issue_f key t u hu
  have HS := Lib.hid (hs K1 (Nat.le_refl _)); have HI := Lib.hid (hi K2 (Nat.le_refl _))
  clear hs hi
  have HU := Lib.hid hu
  clear hu
  have hB0 := (Below.refl w.heap.size w).alloc (Nat.le_refl _) (.cells #[.string key, .string t, .int .u64 u, .int .i64 at_, .int .u8 b] 42)
  go_enter Tryd.func6, Tryd.ntmps6
  go_wp2_with (go_at_call 10; refine Pause'.out ?_)
  constructor
  refine (cartouchelaw05_shown.calls K1 true _ (hT.below hB0 hT.size) HS.out).mono ?_
  rintro e u1 ⟨rfl, hb⟩
  replace hB := hB0.trans (hb.mono hB0.size)
  clear hb hB0
  rcases issueR_ok key t u with ⟨h, hbad⟩ | ⟨h, h1, h2, hk⟩
  · rw [h] at HI
    clear hbad h
    go_wp2_with (go_at_call 11; refine Pause'.out ?_)
    constructor
    refine (pass_Issue.calls K2 key t u _ _ _ (hT.below hB hT.size) HI.out).mono ?_
    rintro e u2 ⟨rfl, hb⟩
    replace hB := hB.trans (hb.mono hB.size)
    clear hb
    go_wp2
    go_ret
    exact ⟨rfl, hB⟩
  rw [h] at HI
  have hsz : (saidB t u ++ keyedB key (sealIn t u)).size = (saidB t u).size + 32 := by rw [ByteArray.size_append, keyedB_size]
  have hle := saidB_size t u
  have hlaw := fun (a : Nat) (ha : a < 32) (hne : bt (saidB t u ++ keyedB key (sealIn t u)) (((saidB t u).size + a : Nat) : Int) ≠ b) => turned_law key t u a b HU.out h1 h2 ha hb0 hb1 hne
  generalize hS : saidB t u ++ keyedB key (sealIn t u) = S at *
  generalize hm : (saidB t u).size = m at *
  have HL := Lib.hid hlaw
  clear hlaw hk h hS hm
  go_wp2_with (go_at_call 11; refine Pause'.out ?_)
  constructor
  refine (pass_Issue.calls K2 key t u _ _ _ (hT.below hB hT.size) HI.out).mono ?_
  rintro e u2 ⟨rfl, hb⟩
  replace hB := hB.trans (hb.mono hB.size)
  clear hb HI
  have d32 : decide ((S.size : Int) < 32) = false := by simp; omega
  by_cases c0 : at_ < 0
  · have e0 : decide (at_ < 0) = true := decide_eq_true c0
    go_wp2
    go_ret
    exact ⟨rfl, hB⟩
  by_cases c1 : at_ ≥ 32
  · have e0 : decide (at_ < 0) = false := decide_eq_false c0
    have e1 : decide (32 ≤ at_) = true := decide_eq_true c1
    go_wp2
    go_ret
    exact ⟨rfl, hB⟩
  obtain ⟨a, rfl⟩ := Int.eq_ofNat_of_zero_le (show 0 ≤ at_ by omega)
  have ha : a < 32 := by omega
  have e0 : decide ((a : Int) < 0) = false := decide_eq_false c0
  have e1 : decide (32 ≤ (a : Int)) = false := by simp; omega
  have hn : m + a < S.size := by omega
  have hidx : (S.size : Int) - 32 + (a : Int) = ((m + a : Nat) : Int) := by omega
  obtain ⟨n, hnn⟩ : ∃ n, n = m + a := ⟨_, rfl⟩
  rw [← hnn] at hidx hn
  have hix := fun W => index_bt S n hn W
  have hS1 : S.size ≤ 1000 := by omega
  have hS0 : (32 : Int) ≤ (S.size : Int) := by omega
  by_cases hbn : bt S (n : Int) = b
  · have eb : (bt S (n : Int) == b) = true := beq_iff_eq.mpr hbn
    clear hnn hsz hle hbn
    go_wp2
    go_ret
    exact ⟨rfl, hB⟩
  have eb : (bt S (n : Int) == b) = false := beq_eq_false_iff_ne.mpr hbn
  have hl := HL.out a ha (by rw [← hnn]; exact hbn)
  rw [← hnn] at hl
  obtain ⟨K3, c3⟩ := check_f key (turnB S n b) 0
  obtain ⟨K4, c4⟩ := check_f key (S ++ ⟨#[120]⟩) 0
  obtain ⟨K5, c5⟩ := check_f key (S.extract 0 (S.size - 1)) 0
  have c3 := c3 K3 (Nat.le_refl _)
  have c4 := c4 K4 (Nat.le_refl _)
  have c5 := c5 K5 (Nat.le_refl _)
  rw [hl.1] at c3
  rw [hl.2.1] at c4
  rw [hl.2.2] at c5
  have C3 := Lib.hid c3; have C4 := Lib.hid c4; have C5 := Lib.hid c5
  have kb := fun W => print_bytes (P := Tryd.prog) 9 43 5 Tryd.underlying9 Tryd.underlying43 Tryd.underlying5 S W
  have kc := fun W => Lib.bytesWorld_cell W 5 S n hn
  have kf := fun W => bytes_free W S n hn
  have kt := fun W => turn_bytes W S n b hS1 hn
  have hn0 : (0 : Int) ≤ (n : Int) := by omega
  have hn1 : (n : Int) < (S.size : Int) := by omega
  have HN := Lib.hid hnn
  clear c3 c4 c5 hl hnn hbn HL hsz hle
  go_wp2_with (go_at_call 16; refine Pause'.out ?_)
  constructor
  have hB2 : Below w.heap.size w ((Lib.bytesWorld u2 5 S).setCell ⟨u2.heap.size, n, none⟩ (.int .u8 b)) := (bytes_below hB hB.size 5 S).setCell hB.size _
  refine (pass_Check.calls K3 key (turnB S n b) 0 _ _ _ (hT.below hB2 hT.size) C3.out).mono ?_
  rintro e u3 ⟨rfl, hb⟩
  replace hB := hB2.trans (hb.mono hB2.size)
  clear hb hB2 kb kc kf kt hix eb hidx
  have hcat : ¬ 9223372036854775807 < S.size + 1 := by omega
  have hx0 : (0 : Int) ≤ (S.size : Int) - 1 := by omega
  have hx1 : ((S.size : Int) - 1).toNat = S.size - 1 := by omega
  go_wp2_with (go_at_call 16; refine Pause'.out ?_)
  constructor
  have q := pass_Check.calls K4 key (S ++ ⟨#[120]⟩) 0 _ _ u3 (hT.below hB hT.size) C4.out
  with_reducible refine q.mono ?_
  clear q
  rintro e u4 ⟨rfl, hb⟩
  replace hB := hB.trans (hb.mono hB.size)
  clear hb
  go_wp2_with (go_at_call 16; refine Pause'.out ?_)
  constructor
  have q := pass_Check.calls K5 key (S.extract 0 (S.size - 1)) 0 _ _ u4 (hT.below hB hT.size) C5.out
  with_reducible refine q.mono ?_
  clear q
  rintro e u5 ⟨rfl, hb⟩
  replace hB := hB.trans (hb.mono hB.size)
  clear hb
  go_wp2
  all_goals go_ret
  all_goals exact ⟨rfl, hB⟩
/-- What a turned pass is asked of. -/
def TurnedOk (u a b : Int) : Prop := (Lit.int .u64 u).wf = true ∧ (Lit.int .i64 a).wf = true ∧ (Lit.int .u8 b).wf = true
theorem PassTurned_pure (k t : ByteArray) (u a b : Int) (h : k.size ≤ 140737488351232 ∧ t.size ≤ 140737488351232 ∧ (Lit.int .u64 u).wf = true ∧ (Lit.int .i64 a).wf = true ∧ (Lit.int .u8 b).wf = true) : TurnedOk u a b := h.2.2
theorem T.cartouchelaw05_PassTurned.calls (k t : ByteArray) (u a b : Int) (r : Bool) (w : World) (hT : Tabs w) (h : TurnedOk u a b) :
    Calls Tryd.prog 6 #[.agg #[.string k, .string t, .int .u64 u, .int .i64 a, .int .u8 b]] w fun e w' => e = .returned (.bool true) ∧ Below w.heap.size w w' := by
  obtain ⟨h1, h2, h3⟩ := h
  obtain ⟨n, rfl, hn⟩ := wf_u64 h1
  have h4 : IntKind.i64.min ≤ a ∧ a ≤ IntKind.i64.max := by simpa [Lit.wf] using h2
  have e1 : IntKind.i64.min = -9223372036854775808 := by decide
  have e2 : IntKind.i64.max = 9223372036854775807 := by decide
  have h5 : IntKind.u8.min ≤ b ∧ b ≤ IntKind.u8.max := by simpa [Lit.wf] using h3
  have e3 : IntKind.u8.min = 0 := by decide
  have e4 : IntKind.u8.max = 255 := by decide
  exact turned_walk k t n a b hn (by omega) (by omega) (by omega) (by omega) w hT
end Go.Proofs.YtllkgojhpbacmaaDoor
