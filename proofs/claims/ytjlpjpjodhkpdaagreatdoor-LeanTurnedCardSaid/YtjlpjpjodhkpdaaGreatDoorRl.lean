/- cartoucheref03.Climb, unlike and Clash, where the proofs stand. -/
import Derived.Test.YtjlpjpjodhkpdaaGreatDoorRc
import Derived.Test.YtjlpjpjodhkpdaaGreatDoorRn
set_option maxHeartbeats 8000000
set_option maxRecDepth 100000
set_option linter.unusedVariables false
set_option linter.unusedSimpArgs false
namespace Go.Proofs.YtjlpjpjodhkpdaaGreatDoor
open Go.RowKit Go.Proofs.YtjlpjpjodhkpdaaGreatDoor.Q Go.Proofs.YtjlpjpjodhkpdaaGreatDoorW.PrintWords
def insB (N i : Nat) (s : ByteArray) (path : List ByteArray) : List ByteArray := TM.climbF sumB (TM.rights 0 N i) path [TM.leafB s]
def allB (N i : Nat) (s : ByteArray) (path : List ByteArray) : List ByteArray := insB N i s path ++ [rootB N (sumB (TM.lastB (insB N i s path)))]
theorem insB_length {N i : Nat} {s : ByteArray} {path : List ByteArray} (h : path.length = (TM.wayL 0 N i).length) : (insB N i s path).length = path.length + 1 := by
 unfold insB
 rw [TM.climbF_length sumB _ _ _ (by rw [TM.rights_length, h]), TM.rights_length, h]
 simp
 omega
theorem allB_length {N i : Nat} {s : ByteArray} {path : List ByteArray} (h : path.length = (TM.wayL 0 N i).length) : (allB N i s path).length = path.length + 2 := by
 unfold allB
 rw [List.length_append, insB_length h]
 rfl
theorem rclimb_any (N i : Nat) (s : ByteArray) (A0 : Option Addr) (c0 : Nat) (path : List ByteArray) (w : World) (hN : N ≤ 4096) (hi : i < N) (hs : s.size ≤ 562949953421311) (hw : path.length = (TM.wayL 0 N i).length) (h32 : ∀ p ∈ path, p.size = 32) (hr : Kd.C Kd.string w A0 path.length path) (hc : path.length ≤ c0) :
 Calls Tryz.prog 24 #[.int .i64 (N : Int), .int .i64 (i : Int), .string s, .slice A0 path.length c0] w fun e w' => ∃ g c, e = .returned (.tuple #[.slice (some ⟨g, 0, none⟩) (path.length + 2) c, .int .i64 0]) ∧ w'.ownsRow w.heap.size 9 1 (.slice (some ⟨g, 0, none⟩) (path.length + 2) c) (path.length + 2) ((allB N i s path).map .string) ∧ Below w.heap.size w w' := by
 obtain ⟨i0, hi0, hz0, hz1, hz2⟩ := info_parts infoStr
 have h12 := TM.way_le 12 N 0 i hN
 have hL := insB_length (s := s) hw
 have hsm := climb_small (TM.rights 0 N i) path [TM.leafB s] h32 (leafB_small hs) _ (last_mem hL)
 have HS := Lib.hid (fun u => rsum_any _ hsm u)
 have HRt := Lib.hid (fun u => rroot_any N (sumB (TM.lastB (insB N i s path))) hN (by rw [sumB_size]; decide) u)
 have HLG := Lib.hid (last_get hL)
 have HIn := Lib.hid (fun u (hb : Below w.heap.size w u) => inputs_any s hs N 0 i path A0 c0 u (Nat.zero_le _) (by omega) hN hw h32 (Kd.C_below hr hb) hc)
 simp only [Nat.sub_zero] at HIn
 unfold allB
 have H32 := Lib.hid (fun (k : Nat) (h : k < path.length) => h32 (rdOf ByteArray.empty path (k : Int)) (by simp [rdOf, h]))
 have e1 : TM.climbF sumB (TM.rights 0 N i) path [TM.leafB s] = insB N i s path := rfl
 rw [e1] at HIn hsm HS
 have HR := Lib.hid hr
 have HB0 := Lib.hid (Below.refl w.heap.size w)
 generalize insB N i s path = out at *
 generalize TM.lastB out = lst at *
 generalize sumB lst = sl at *
 generalize rootB N sl = rt at *
 have hm12 : path.length ≤ 12 := by omega
 clear hL hsm hr h32 e1 hw h12
 have hd1 : decide ((N : Int) < 1) = false := by simp; omega
 have hd2 : decide ((4096 : Int) < (N : Int)) = false := by simp; omega
 have hd3 : decide ((i : Int) < 0) = false := by simp
 have hd4 : decide ((N : Int) ≤ (i : Int)) = false := by simp; omega
 have hd5 : decide (N ≤ i) = false := by simp; omega
 go_enter Tryz.func24, Tryz.ntmps24
 go_wp2
 go_loopw [10] (fun x u => ∃ k : Nat, k ≤ path.length ∧ x = .int .i64 (k : Int) ∧ Hid (Below w.heap.size w u)) (fun x _ => path.length + 1 - (intOf x).toNat)
 case atStart => exact ⟨0, by omega, rfl, HB0⟩
 case round =>
  clear HB0
  obtain ⟨k, hk, rfl, HB1⟩ := hrel
  by_cases hkp : k < path.length
  · have hkt : decide ((k : Int) < (path.length : Int)) = true := by simp; omega
    have hkt2 : decide (k < path.length) = true := by simp; omega
    obtain ⟨ad, rfl, y0⟩ := Kd.at_string (Kd.C_below HR.out HB1.out) (k : Int) (by omega) (by omega)
    have hp := H32.out k hkp
    rw [Int.toNat_natCast] at y0
    generalize rdOf ByteArray.empty path (k : Int) = p at *
    go_wp2
    go_roundw
    case rel => exact ⟨k + 1, by omega, by go_num, HB1⟩
    case measure => simp [intOf]; omega
  · have hkt : decide ((k : Int) < (path.length : Int)) = false := by simp; omega
    have hkt2 : decide (k < path.length) = false := by simp; omega
    clear H32 HR
    generalize hpl : path.length = m at *
    have WM := Lib.hid (show wrap64 (m : Int) = m by unfold wrap64; omega)
    go_wp2_with (go_at_call 52; refine Pause'.out ?_)
    constructor
    refine (HIn.out _ HB1.out).mono ?_
    rintro e w2 ⟨g, c, rfl, ho, hb⟩
    have HB2 := Lib.hid (below_step HB1.out hb)
    have HO2 := Lib.hid (own_weaken ho HB1.out.size)
    have hce := own_cell ho (k := m) (x := .string lst) (by rw [List.getElem?_map, HLG.out]; rfl)
    clear hb ho HIn
    have wm := WM.out
    go_wp2_with (go_at_call 25; refine Pause'.out ?_)
    constructor
    refine (HS.out _).mono ?_
    rintro e w3 ⟨rfl, hb⟩
    have HB3 := Lib.hid (below_step HB2.out hb)
    have HO3 := Lib.hid (Kd.own_step HO2.out hb)
    clear hb HS hce
    go_wp2_with (go_at_call 21; refine Pause'.out ?_)
    constructor
    refine (HRt.out _).mono ?_
    rintro e w4 ⟨rfl, hb⟩
    have HB4 := Lib.hid (below_step HB3.out hb)
    have HO4 := Lib.hid (Kd.own_step HO3.out hb)
    clear hb HRt
    go_wp2_with (at_builtin; refine wpList_append_own_at _ rfl _ _ 45 rfl w.heap.size 9 i0 _ 1 16 Tryz.underlying45 hi0 hz0 hz1 hz2 rfl (by decide) (.slice (some ⟨g, 0, none⟩) (m + 1) c) (m + 1) (out.map .string) rfl (HO4.out.alloc _) ⟨w4.heap.size, 0, none⟩ 1 1 [.string rt] rfl rfl (cells_new_at _ _ _ _ (by simp)) (by simp [Value.oneCell']) (by unfold maxLen; omega) (by omega) (by have := HB4.out.size; simp; omega) ?_; intro v' w5 hown hgrow _ _; have HB5 := Lib.hid (below_row HB4.out HO4.out hgrow); have HO5 := Lib.hid hown; clear hown hgrow)
    go_ret2
    obtain ⟨g5, c5, rfl⟩ := ownsRow_succ HO5.out
    subst hpl
    refine ⟨g5, c5, by simp, ?_, HB5.out⟩
    have := HO5.out
    simpa using this
theorem unlike_any (a b : ByteArray) (ha : a.size ≤ 562949953421312) (hb : b.size ≤ 562949953421312) (hne : a ≠ b) (he : sumB a = sumB b) (w : World) :
 Calls Tryz.prog 56 #[.string a, .string b] w fun e w' => e = .returned (.tuple #[.string a, .string b, .bool true]) ∧ Below w.heap.size w w' := by
 have HA := Lib.hid (fun u => rsum_any a ha u)
 have HB := Lib.hid (fun u => rsum_any b hb u)
 rw [he] at HA
 generalize sumB b = q at *
 have t1 := ba_list_ne hne
 have t2 : (a.toList == b.toList) = false := by rw [ba_list]; exact decide_eq_false hne
 clear hne he ha hb
 go_enter Tryz.func56, Tryz.ntmps56
 go_wp2_with (go_at_call 25; refine Pause'.out ?_)
 constructor
 refine (HA.out _).mono ?_
 rintro e w1 ⟨rfl, hb⟩
 have HB1 := Lib.hid hb
 clear hb
 go_wp2_with (go_at_call 25; refine Pause'.out ?_)
 constructor
 refine (HB.out _).mono ?_
 rintro e w2 ⟨rfl, hb⟩
 have HB2 := Lib.hid (below_step HB1.out hb)
 clear hb
 go_wp2
 go_ret3
 exact ⟨rfl, HB2.out⟩
theorem app_left {p a b : ByteArray} (h : p ++ a = p ++ b) : a = b := by
 have h2 : (p ++ a).data.toList = (p ++ b).data.toList := by rw [h]
 rw [ByteArray.data_append, ByteArray.data_append, Array.toList_append, Array.toList_append] at h2
 exact ByteArray.ext (Array.toList_inj.1 (List.append_cancel_left h2))
theorem app_right {p a b : ByteArray} (h : a ++ p = b ++ p) : a = b := by
 have h2 : (a ++ p).data.toList = (b ++ p).data.toList := by rw [h]
 rw [ByteArray.data_append, ByteArray.data_append, Array.toList_append, Array.toList_append] at h2
 exact ByteArray.ext (Array.toList_inj.1 (List.append_cancel_right h2))
def Cl (X Y : List ByteArray) : Prop := ∃ (k : Nat) (x y : ByteArray), X[k]? = some x ∧ Y[k]? = some y ∧ x ≠ y ∧ sumB x = sumB y ∧ ∀ j, k < j → X[j]? = Y[j]?
theorem Cl.snoc {X Y : List ByteArray} {x y : ByteArray} (hl : X.length = Y.length) (hs : sumB x = sumB y) (h : x = y → Cl X Y) : Cl (X ++ [x]) (Y ++ [y]) := by
 by_cases e : x = y
 · obtain ⟨k, a, b, h1, h2, h3, h4, h5⟩ := h e
   have l1 := (List.getElem?_eq_some_iff.1 h1).1
   have l2 := (List.getElem?_eq_some_iff.1 h2).1
   refine ⟨k, a, b, by rw [List.getElem?_append_left l1]; exact h1, by rw [List.getElem?_append_left l2]; exact h2, h3, h4, fun j hj => ?_⟩
   by_cases hx : j < X.length
   · rw [List.getElem?_append_left hx, List.getElem?_append_left (by omega)]; exact h5 j hj
   · rw [List.getElem?_append_right (by omega), List.getElem?_append_right (by omega), hl, e]
 · refine ⟨X.length, x, y, by simp, by rw [hl]; simp, e, hs, fun j hj => ?_⟩
   rw [List.getElem?_eq_none (by simp; omega), List.getElem?_eq_none (by simp; omega)]
theorem step_same {r : Bool} {a b p : ByteArray} (h : TM.stepB r a p = TM.stepB r b p) : a = b := by
 cases r
 · exact app_left h
 · exact app_left (app_right h)
theorem climb_cl {a b : ByteArray} (hab : a ≠ b) : ∀ (m : Nat) (rs : List Bool) (ps : List ByteArray), rs.length = m → ps.length = m →
 sumB (TM.lastB (TM.climbF sumB rs ps [TM.leafB a])) = sumB (TM.lastB (TM.climbF sumB rs ps [TM.leafB b])) → Cl (TM.climbF sumB rs ps [TM.leafB a]) (TM.climbF sumB rs ps [TM.leafB b])
 | 0, rs, ps, h1, h2, hh => by
   obtain rfl := List.eq_nil_of_length_eq_zero h1
   obtain rfl := List.eq_nil_of_length_eq_zero h2
   have hn : TM.leafB a ≠ TM.leafB b := fun h => hab (app_left h)
   exact ⟨0, _, _, rfl, rfl, hn, hh, fun j hj => by
    show [TM.leafB a][j]? = [TM.leafB b][j]?
    rw [List.getElem?_eq_none (by simp; omega), List.getElem?_eq_none (by simp; omega)]⟩
 | m + 1, rs, ps, h1, h2, hh => by
   obtain ⟨rs, r, rfl⟩ := (List.eq_nil_or_concat rs).resolve_left (by rintro rfl; simp at h1)
   obtain ⟨ps, p, rfl⟩ := (List.eq_nil_or_concat ps).resolve_left (by rintro rfl; simp at h2)
   simp only [List.concat_eq_append] at *
   have e1 : rs.length = m := by simpa using h1
   have e2 : ps.length = m := by simpa using h2
   rw [TM.climbF_snoc sumB _ _ _ _ _ (by omega), TM.climbF_snoc sumB _ _ _ _ _ (by omega)] at hh ⊢
   rw [TM.lastB_snoc, TM.lastB_snoc] at hh
   exact Cl.snoc (by rw [TM.climbF_length sumB _ _ _ (by omega), TM.climbF_length sumB _ _ _ (by omega)]; rfl) hh fun e => climb_cl hab m rs ps e1 e2 (step_same e)
theorem all_cl {N i : Nat} {a b : ByteArray} {path : List ByteArray} (hab : a ≠ b) (hw : path.length = (TM.wayL 0 N i).length) (hh : sumB (rootB N (sumB (TM.lastB (insB N i a path)))) = sumB (rootB N (sumB (TM.lastB (insB N i b path))))) : Cl (allB N i a path) (allB N i b path) := by
 refine Cl.snoc (by rw [insB_length hw, insB_length hw]) hh fun e => ?_
 have e2 : sumB (TM.lastB (insB N i a path)) = sumB (TM.lastB (insB N i b path)) := app_left e
 exact climb_cl hab path.length _ _ (by rw [TM.rights_length, hw]) rfl e2
theorem all_small {N i : Nat} {s : ByteArray} {path : List ByteArray} (hs : s.size ≤ 562949953421311) (h32 : ∀ p ∈ path, p.size = 32) : ∀ x ∈ allB N i s path, x.size ≤ 562949953421312 := fun x hx => by
 rcases List.mem_append.1 hx with h | h
 · exact climb_small _ _ _ h32 (leafB_small hs) x h
 · rw [List.mem_singleton] at h
   subst h
   have h9 := numB_size N
   have h1 : (⟨#[2]⟩ : ByteArray).size = 1 := rfl
   unfold rootB
   rw [ByteArray.size_append, ByteArray.size_append, sumB_size, h1]
   omega
theorem rclash_any (N i : Nat) (a b : ByteArray) (path : List ByteArray) (hN : N ≤ 4096) (hi : i < N) (ha : a.size ≤ 562949953421311) (hb : b.size ≤ 562949953421311) (hab : a ≠ b) (hw : path.length = (TM.wayL 0 N i).length) (h32 : ∀ p ∈ path, p.size = 32)
 (hh : sumB (rootB N (sumB (TM.lastB (insB N i a path)))) = sumB (rootB N (sumB (TM.lastB (insB N i b path))))) :
 ∃ x y, x ≠ y ∧ sumB x = sumB y ∧ x.size ≤ 562949953421312 ∧ y.size ≤ 562949953421312 ∧ ∀ (A0 : Option Addr) (c0 : Nat) (w : World), Kd.C Kd.string w A0 path.length path → path.length ≤ c0 →
 Calls Tryz.prog 27 #[.int .i64 (N : Int), .int .i64 (i : Int), .string a, .slice A0 path.length c0, .string b, .slice A0 path.length c0] w fun e w' => e = .returned (.tuple #[.string x, .string y, .bool true]) ∧ Below w.heap.size w w' := by
 obtain ⟨k0, x, y, hx, hy, hne, he, hu⟩ := all_cl hab hw hh
 have sx := all_small (N := N) (i := i) ha h32 x (List.mem_of_getElem? hx)
 have sy := all_small (N := N) (i := i) hb h32 y (List.mem_of_getElem? hy)
 refine ⟨x, y, hne, he, sx, sy, fun A0 c0 w hr hc => ?_⟩
 have hlX := allB_length (s := a) hw
 have hlY := allB_length (s := b) hw
 have HA := Lib.hid (fun u (h : Below w.heap.size w u) => rclimb_any N i a A0 c0 path u hN hi ha hw h32 (Kd.C_below hr h) hc)
 have HB := Lib.hid (fun u (h : Below w.heap.size w u) => rclimb_any N i b A0 c0 path u hN hi hb hw h32 (Kd.C_below hr h) hc)
 have HU := Lib.hid (fun u => unlike_any x y sx sy hne he u)
 have HB0 := Lib.hid (Below.refl w.heap.size w)
 have hk0 : k0 < path.length + 2 := by have := (List.getElem?_eq_some_iff.1 hx).1; omega
 have h12 := TM.way_le 12 N i 0
 have hm12 : path.length ≤ 12 := by have := TM.way_le 12 N 0 i hN; omega
 generalize allB N i a path = X at *
 generalize allB N i b path = Y at *
 have HX := Lib.hid hx; have HY := Lib.hid hy; have HUp := Lib.hid hu; have HLx := Lib.hid hlX; have HLy := Lib.hid hlY
 have HE := Lib.hid (And.intro hne (And.intro he (And.intro sx sy)))
 have t1 := Lib.hid (ba_list_ne hne)
 have t2 := Lib.hid (show (x.toList == y.toList) = false by rw [ba_list]; exact decide_eq_false hne)
 clear hx hy hu hlX hlY hne he sx sy hr h32 hw hh ha hb hab h12 hN hi hc
 generalize path.length = m at *
 go_enter Tryz.func27, Tryz.ntmps27
 go_wp2_with (go_at_call 24; refine Pause'.out ?_)
 constructor
 refine (HA.out _ HB0.out).mono ?_
 rintro e w1 ⟨gx, cx, rfl, ho, hb⟩
 have HB1 := Lib.hid (below_step HB0.out hb); have HO1 := Lib.hid ho
 clear hb ho HA
 go_wp2_with (go_at_call 24; refine Pause'.out ?_)
 constructor
 refine (HB.out _ HB1.out).mono ?_
 rintro e w2 ⟨gy, cy, rfl, ho, hb⟩
 have HB2 := Lib.hid (below_step HB1.out hb); have HO2 := Lib.hid (Kd.own_step HO1.out hb); have HP2 := Lib.hid ho
 clear hb ho HB HB0 HB1 HO1
 have WM := Lib.hid (show wrap64 (((m + 2 : Nat) : Int) - 1) = ((m + 2 : Nat) : Int) - 1 by unfold wrap64; omega)
 have wm := WM.out
 go_wp2
 clear wm
 go_loopw [19] (fun v u => ∃ j : Nat, k0 + 1 ≤ j ∧ j ≤ m + 2 ∧ v = .int .i64 ((j : Int) - 1) ∧ ∃ n, u = w2.drewN n) (fun v _ => (intOf v + 1).toNat)
 case atStart => exact ⟨m + 2, by omega, by omega, rfl, 0, rfl⟩
 case round =>
  obtain ⟨j, hj1, hj2, rfl, n, rfl⟩ := hrel
  obtain ⟨k, rfl⟩ : ∃ k, j = k + 1 := ⟨j - 1, by omega⟩
  have ek : (((k + 1 : Nat) : Int) - 1) = (k : Int) := by omega
  rw [ek]
  have wk := Lib.hid (show wrap64 ((k : Int) - 1) = (k : Int) - 1 by unfold wrap64; omega)
  have hge : decide ((0 : Int) ≤ (k : Int)) = true := by simp
  by_cases hk : k = k0
  · subst hk
    have c1 := own_cell HO2.out (k := k) (x := .string x) (by rw [List.getElem?_map, HX.out]; rfl)
    have c2 := own_cell HP2.out (k := k) (x := .string y) (by rw [List.getElem?_map, HY.out]; rfl)
    have t1' := t1.out; have t2' := t2.out
    have hkm : (k : Int) < (m : Int) + 2 := by omega
    have hkm2 : decide ((k : Int) < (m : Int) + 2) = true := decide_eq_true hkm
    have hkm3 : k < m + 2 := by omega
    go_wp2
    go_quiet (fail)
    go_wp2
    go_region_held3 (fun w' => w'.cell? ⟨gx, k, none⟩ = some (.string x) ∧ w'.cell? ⟨gy, k, none⟩ = some (.string y))
     (first
       | go_keep
       | exact ⟨pw_cell_below hb3 c1, pw_cell_below hb3 c2⟩)
     ((go_loud (go_at_call 56; refine (HU.out _).mono ?_; rintro e w3 ⟨rfl, hb3⟩)))
    go_wp2
    go_ret3
    exact ⟨rfl, by first | exact below_step (pw_below_drewN HB2.out _) hb3 | exact below_step (below_drew1 (pw_below_drewN HB2.out _)) hb3 | exact below_drew1 (below_step (pw_below_drewN HB2.out _) hb3) | exact below_drew1 (below_step (below_drew1 (pw_below_drewN HB2.out _)) hb3)⟩
  · obtain ⟨z, hz⟩ : ∃ z, X[k]? = some z := ⟨_, List.getElem?_eq_getElem (by have := HLx.out; omega)⟩
    have c1 := own_cell HO2.out (k := k) (x := .string z) (by rw [List.getElem?_map, hz]; rfl)
    have c2 := own_cell HP2.out (k := k) (x := .string z) (by rw [List.getElem?_map, ← HUp.out k (by omega), hz]; rfl)
    clear hz
    have wk' := wk.out
    have hkm : (k : Int) < (m : Int) + 2 := by omega
    have hkm2 : decide ((k : Int) < (m : Int) + 2) = true := decide_eq_true hkm
    go_wp2
    go_quiet (fail)
    go_wp2
    go_roundw
    case rel => exact ⟨k, by omega, by omega, by first | rfl | simp, _, rfl⟩
    case measure => simp [intOf]
end Go.Proofs.YtjlpjpjodhkpdaaGreatDoor
