/- cartoucheref03: inputs, Climb and Clash, where the proofs stand. -/
import Derived.Test.YtjlpjpjodhkpdaaGreatDoorRefTop
import Derived.Test.YtjlpjpjodhkpdaaGreatDoorClM
import Derived.Test.YtjlpjpjodhkpdaaGreatDoorQB
import Derived.Test.YtjlpjpjodhkpdaaGreatDoorSh8
set_option maxHeartbeats 8000000
set_option maxRecDepth 100000
set_option linter.unusedVariables false
set_option linter.unusedSimpArgs false
namespace Go.Proofs.YtjlpjpjodhkpdaaGreatDoor
open Go.RowKit Go.Proofs.YtjlpjpjodhkpdaaGreatDoor.Q Go.Proofs.YtjlpjpjodhkpdaaGreatDoorW.PrintWords
theorem climb_small : ∀ (rs : List Bool) (ps out : List ByteArray), (∀ p ∈ ps, p.size = 32) → (∀ x ∈ out, x.size ≤ 562949953421312) → ∀ x ∈ TM.climbF sumB rs ps out, x.size ≤ 562949953421312
 | r :: rs, p :: ps, out, hp, ho, x, hx => by
   rw [TM.climbF] at hx
   refine climb_small rs ps _ (fun q hq => hp q (by simp [hq])) (fun y hy => ?_) x hx
   rcases List.mem_append.1 hy with h | h
   · exact ho y h
   · rw [List.mem_singleton] at h
     subst h
     have := hp p (by simp)
     have h1 : (⟨#[1]⟩ : ByteArray).size = 1 := rfl
     unfold TM.stepB TM.nodeB
     split <;> simp only [ByteArray.size_append, sumB_size, this, h1] <;> decide
 | [], _, out, _, ho, x, hx => ho x (by simpa [TM.climbF] using hx)
 | _ :: _, [], out, _, ho, x, hx => ho x (by simpa [TM.climbF] using hx)
theorem leafB_small {s : ByteArray} (hs : s.size ≤ 562949953421311) : ∀ x ∈ [TM.leafB s], x.size ≤ 562949953421312 := fun x hx => by
 rw [List.mem_singleton] at hx
 subst hx
 have h1 : (⟨#[0]⟩ : ByteArray).size = 1 := rfl
 unfold TM.leafB
 rw [ByteArray.size_append, h1]
 omega
theorem last_mem {l : List ByteArray} {k : Nat} (h : l.length = k + 1) : TM.lastB l ∈ l := List.mem_of_getElem? (last_get h)
theorem inputs_any (s : ByteArray) (hs : s.size ≤ 562949953421311) : ∀ (n lo i : Nat) (path : List ByteArray) (A0 : Option Addr) (c0 : Nat) (w : World), lo ≤ i → i < lo + n → n ≤ 4096 → path.length = (TM.wayL lo n i).length → (∀ p ∈ path, p.size = 32) → Kd.C Kd.string w A0 path.length path → path.length ≤ c0 →
 Calls Tryz.prog 52 #[.int .i64 (n : Int), .int .i64 ((i - lo : Nat) : Int), .string s, .slice A0 path.length c0] w fun e w' => ∃ g c, e = .returned (.tuple #[.slice (some ⟨g, 0, none⟩) (path.length + 1) c, .bool true]) ∧ w'.ownsRow w.heap.size 9 1 (.slice (some ⟨g, 0, none⟩) (path.length + 1) c) (path.length + 1) ((TM.climbF sumB (TM.rights lo n i) path [TM.leafB s]).map .string) ∧ Below w.heap.size w w' := by
 intro n
 induction n using Nat.strongRecOn with
 | ind n ih =>
   intro lo i path A0 c0 w h0 h1 hmax hw h32 hr hc
   obtain ⟨i0, hi0, hz0, hz1, hz2⟩ := info_parts infoStr
   have h12 := TM.way_le 12 n lo i hmax
   by_cases hn : 1 < n
   · have hne : path ≠ [] := by
      rintro rfl
      by_cases hi : i < lo + TM.halfN n
      · rw [TM.wayL_right hn hi] at hw; simp at hw
      · rw [TM.wayL_left hn hi] at hw; simp at hw
     have hb1 := TM.half_lt n hn; have hb2 := TM.half_pos n
     obtain ⟨init, last, rfl⟩ := (List.eq_nil_or_concat path).resolve_left hne
     simp only [List.concat_eq_append] at *
     have hpl : (init ++ [last]).length = init.length + 1 := by simp
     rw [hpl] at hw hr hc ⊢
     have hrI : Kd.C Kd.string w A0 init.length init := by
      have := Kd.C_take (m := init.length) (xs := init ++ [last]) (w := w) (A := A0) (by rw [hpl]; exact hr) (by simp)
      rwa [List.take_left] at this
     obtain ⟨ad, rfl, hcell⟩ := Kd.at_string hr (init.length : Int) (by omega) (by omega)
     have ern : rdOf ByteArray.empty (init ++ [last]) (init.length : Int) = last := by simp [rdOf]
     rw [ern, Int.toNat_natCast] at hcell
     have hcut := cut_to 45 9 .i64 Tryz.underlying45 hi0 (some ad) (init.length + 1) c0 (init.length : Int) (by omega) (by omega) hc
     rw [Int.toNat_natCast] at hcut
     have hne1 : ((n : Int) == 1) = false := beq_eq_false_iff_ne.mpr (by omega)
     clear hr hne ern hpl
     have hm12 : init.length + 1 ≤ 12 := by omega
     by_cases hi : i < lo + TM.halfN n
     · have IH := fun u hu => ih (TM.halfN n) (by omega) lo i init (some ad) c0 u (by omega) (by omega) (by omega) (by have h := hw; rw [TM.wayL_right hn hi, List.length_cons] at h; omega) (fun p hp => h32 p (by simp [hp])) hu (by omega)
       have hrl := TM.rights_right hn hi
       have hwl := congrArg List.length (TM.wayL_right hn hi)
       have hlen : init.length = (TM.rights lo (TM.halfN n) i).length := by rw [TM.rights_length]; have h := hw; rw [hwl, List.length_cons] at h; omega
       have hcl := TM.climbF_snoc sumB (TM.rights lo (TM.halfN n) i) init true last [TM.leafB s] hlen.symm
       rw [hrl, hcl]
       have hL : (TM.climbF sumB (TM.rights lo (TM.halfN n) i) init [TM.leafB s]).length = init.length + 1 := by rw [TM.climbF_length sumB _ _ _ hlen.symm, ← hlen]; simp; omega
       have hlg := last_get hL
       have hsm := climb_small (TM.rights lo (TM.halfN n) i) init [TM.leafB s] (fun p hp => h32 p (by simp [hp])) (leafB_small hs) _ (last_mem hL)
       have hl32 := h32 last (by simp)
       have HS := Lib.hid (fun u => rsum_any _ hsm u)
       have HNd := Lib.hid (rnode_any (sumB (TM.lastB (TM.climbF sumB (TM.rights lo (TM.halfN n) i) init [TM.leafB s]))) last (by rw [sumB_size, hl32]; decide))
       have ei : ((i - lo : Nat) : Int) = ((i - lo : Nat) : Int) := by omega
       have en : ((TM.halfN n : Nat) : Int) = (TM.halfN n : Int) := by have := TM.half_lt n hn; omega
       rw [ei, en] at IH
       have hdi : decide (((i - lo : Nat) : Int) < (TM.halfN n : Int)) = true := by simp; omega
       have hdi2 : decide (i - lo < TM.halfN n) = true := by simp; omega
       have HIH := Lib.hid (fun u (hb : Below w.heap.size w u) => IH u (Kd.C_below hrI hb))
       have hst : TM.stepB true (sumB (TM.lastB (TM.climbF sumB (TM.rights lo (TM.halfN n) i) init [TM.leafB s]))) last = TM.nodeB (sumB (TM.lastB (TM.climbF sumB (TM.rights lo (TM.halfN n) i) init [TM.leafB s]))) last := rfl
       rw [hst]
       generalize TM.lastB (TM.climbF sumB (TM.rights lo (TM.halfN n) i) init [TM.leafB s]) = lst at *
       generalize TM.climbF sumB (TM.rights lo (TM.halfN n) i) init [TM.leafB s] = out at *
       generalize sumB lst = sl at *
       have HLG := Lib.hid hlg
       have HHf := Lib.hid (rhalf_any n (by omega))
       clear IH hrl hwl hlen hcl hL hlg hsm hl32 ei en hst hs h32 hw ih hrI
       generalize TM.nodeB sl last = nd at *
       generalize TM.halfN n = hk at *
       have hm12 : init.length + 1 ≤ 12 := hm12
       generalize hil : init.length = m at *
       generalize hii : (i - lo : Nat) = ii at *
       have WM := Lib.hid (show wrap64 (m : Int) = m by unfold wrap64; omega)
       have WN := Lib.hid (show wrap64 ((n : Int) - (hk : Int)) = (n : Int) - (hk : Int) by unfold wrap64; omega)
       have WI := Lib.hid (show wrap64 ((ii : Int) - (hk : Int)) = (ii : Int) - (hk : Int) by unfold wrap64; omega)
       clear hm12 hii hil
       go_enter Tryz.func52, Tryz.ntmps52
       go_wp2_with (go_at_call 55; refine Pause'.out ?_)
       constructor
       refine (HHf.out _).mono ?_
       rintro e w1 ⟨rfl, hb⟩
       have HB1 := Lib.hid hb
       replace hcell := pw_cell_below hb hcell
       clear hb HHf
       have wm := WM.out
       go_wp2_with (go_at_call 52; refine Pause'.out ?_)
       constructor
       refine (HIH.out _ HB1.out).mono ?_
       rintro e w2 ⟨g, c, rfl, ho, hb⟩
       have HB2 := Lib.hid (below_step HB1.out hb)
       have HO2 := Lib.hid (own_weaken ho HB1.out.size)
       have hce := own_cell ho (k := m) (x := .string lst) (by rw [List.getElem?_map, HLG.out]; rfl)
       clear hb ho HIH hcut hcell
       go_wp2_with (go_at_call 25; refine Pause'.out ?_)
       constructor
       refine (HS.out _).mono ?_
       rintro e w3 ⟨rfl, hb⟩
       have HB3 := Lib.hid (below_step HB2.out hb)
       have HO3 := Lib.hid (Kd.own_step HO2.out hb)
       clear hb HS hce
       go_wp2_with (go_at_call 84; refine Pause'.out ?_)
       constructor
       refine (HNd.out _).mono ?_
       rintro e w4 ⟨rfl, hb⟩
       have HB4 := Lib.hid (below_step HB3.out hb)
       have HO4 := Lib.hid (Kd.own_step HO3.out hb)
       clear hb HNd
       go_wp2_with (at_builtin; refine wpList_append_own_at _ rfl _ _ 45 rfl w.heap.size 9 i0 _ 1 16 Tryz.underlying45 hi0 hz0 hz1 hz2 rfl (by decide) (.slice (some ⟨g, 0, none⟩) (m + 1) c) (m + 1) (out.map .string) rfl (HO4.out.alloc _) ⟨w4.heap.size, 0, none⟩ 1 1 [.string nd] rfl rfl (cells_new_at _ _ _ _ (by simp)) (by simp [Value.oneCell']) (by unfold maxLen; omega) (by omega) (by have := HB4.out.size; simp; omega) ?_; intro v' w5 hown hgrow _ _; have HB5 := Lib.hid (below_row HB4.out HO4.out hgrow); have HO5 := Lib.hid hown; clear hown hgrow)
       go_ret2
       obtain ⟨g5, c5, rfl⟩ := ownsRow_succ HO5.out
       refine ⟨g5, c5, by simp, ?_, HB5.out⟩
       have := HO5.out
       simpa using this
     · have IH := fun u hu => ih (n - TM.halfN n) (by omega) (lo + TM.halfN n) i init (some ad) c0 u (by omega) (by omega) (by omega) (by have h := hw; rw [TM.wayL_left hn hi, List.length_cons] at h; omega) (fun p hp => h32 p (by simp [hp])) hu (by omega)
       have hrl := TM.rights_left hn hi
       have hwl := congrArg List.length (TM.wayL_left hn hi)
       have hlen : init.length = (TM.rights (lo + TM.halfN n) (n - TM.halfN n) i).length := by rw [TM.rights_length]; have h := hw; rw [hwl, List.length_cons] at h; omega
       have hcl := TM.climbF_snoc sumB (TM.rights (lo + TM.halfN n) (n - TM.halfN n) i) init false last [TM.leafB s] hlen.symm
       rw [hrl, hcl]
       have hL : (TM.climbF sumB (TM.rights (lo + TM.halfN n) (n - TM.halfN n) i) init [TM.leafB s]).length = init.length + 1 := by rw [TM.climbF_length sumB _ _ _ hlen.symm, ← hlen]; simp; omega
       have hlg := last_get hL
       have hsm := climb_small (TM.rights (lo + TM.halfN n) (n - TM.halfN n) i) init [TM.leafB s] (fun p hp => h32 p (by simp [hp])) (leafB_small hs) _ (last_mem hL)
       have hl32 := h32 last (by simp)
       have HS := Lib.hid (fun u => rsum_any _ hsm u)
       have HNd := Lib.hid (rnode_any last (sumB (TM.lastB (TM.climbF sumB (TM.rights (lo + TM.halfN n) (n - TM.halfN n) i) init [TM.leafB s]))) (by rw [sumB_size, hl32]; decide))
       have ei : ((i - (lo + TM.halfN n) : Nat) : Int) = ((i - lo : Nat) : Int) - (TM.halfN n : Int) := by omega
       have en : ((n - TM.halfN n : Nat) : Int) = (n : Int) - (TM.halfN n : Int) := by have := TM.half_lt n hn; omega
       rw [ei, en] at IH
       have hdi : decide (((i - lo : Nat) : Int) < (TM.halfN n : Int)) = false := by simp; omega
       have hdi2 : decide (i - lo < TM.halfN n) = false := by simp; omega
       have HIH := Lib.hid (fun u (hb : Below w.heap.size w u) => IH u (Kd.C_below hrI hb))
       have hst : TM.stepB false (sumB (TM.lastB (TM.climbF sumB (TM.rights (lo + TM.halfN n) (n - TM.halfN n) i) init [TM.leafB s]))) last = TM.nodeB last (sumB (TM.lastB (TM.climbF sumB (TM.rights (lo + TM.halfN n) (n - TM.halfN n) i) init [TM.leafB s]))) := rfl
       rw [hst]
       generalize TM.lastB (TM.climbF sumB (TM.rights (lo + TM.halfN n) (n - TM.halfN n) i) init [TM.leafB s]) = lst at *
       generalize TM.climbF sumB (TM.rights (lo + TM.halfN n) (n - TM.halfN n) i) init [TM.leafB s] = out at *
       generalize sumB lst = sl at *
       have HLG := Lib.hid hlg
       have HHf := Lib.hid (rhalf_any n (by omega))
       clear IH hrl hwl hlen hcl hL hlg hsm hl32 ei en hst hs h32 hw ih hrI
       generalize TM.nodeB last sl = nd at *
       generalize TM.halfN n = hk at *
       have hm12 : init.length + 1 ≤ 12 := hm12
       generalize hil : init.length = m at *
       generalize hii : (i - lo : Nat) = ii at *
       have WM := Lib.hid (show wrap64 (m : Int) = m by unfold wrap64; omega)
       have WN := Lib.hid (show wrap64 ((n : Int) - (hk : Int)) = (n : Int) - (hk : Int) by unfold wrap64; omega)
       have WI := Lib.hid (show wrap64 ((ii : Int) - (hk : Int)) = (ii : Int) - (hk : Int) by unfold wrap64; omega)
       clear hm12 hii hil
       go_enter Tryz.func52, Tryz.ntmps52
       go_wp2_with (go_at_call 55; refine Pause'.out ?_)
       constructor
       refine (HHf.out _).mono ?_
       rintro e w1 ⟨rfl, hb⟩
       have HB1 := Lib.hid hb
       replace hcell := pw_cell_below hb hcell
       clear hb HHf
       have wm := WM.out
       have wn := WN.out; have wi := WI.out
       go_wp2_with (go_at_call 52; refine Pause'.out ?_)
       constructor
       refine (HIH.out _ HB1.out).mono ?_
       rintro e w2 ⟨g, c, rfl, ho, hb⟩
       have HB2 := Lib.hid (below_step HB1.out hb)
       have HO2 := Lib.hid (own_weaken ho HB1.out.size)
       have hce := own_cell ho (k := m) (x := .string lst) (by rw [List.getElem?_map, HLG.out]; rfl)
       clear hb ho HIH hcut hcell
       go_wp2_with (go_at_call 25; refine Pause'.out ?_)
       constructor
       refine (HS.out _).mono ?_
       rintro e w3 ⟨rfl, hb⟩
       have HB3 := Lib.hid (below_step HB2.out hb)
       have HO3 := Lib.hid (Kd.own_step HO2.out hb)
       clear hb HS hce
       go_wp2_with (go_at_call 84; refine Pause'.out ?_)
       constructor
       refine (HNd.out _).mono ?_
       rintro e w4 ⟨rfl, hb⟩
       have HB4 := Lib.hid (below_step HB3.out hb)
       have HO4 := Lib.hid (Kd.own_step HO3.out hb)
       clear hb HNd
       go_wp2_with (at_builtin; refine wpList_append_own_at _ rfl _ _ 45 rfl w.heap.size 9 i0 _ 1 16 Tryz.underlying45 hi0 hz0 hz1 hz2 rfl (by decide) (.slice (some ⟨g, 0, none⟩) (m + 1) c) (m + 1) (out.map .string) rfl (HO4.out.alloc _) ⟨w4.heap.size, 0, none⟩ 1 1 [.string nd] rfl rfl (cells_new_at _ _ _ _ (by simp)) (by simp [Value.oneCell']) (by unfold maxLen; omega) (by omega) (by have := HB4.out.size; simp; omega) ?_; intro v' w5 hown hgrow _ _; have HB5 := Lib.hid (below_row HB4.out HO4.out hgrow); have HO5 := Lib.hid hown; clear hown hgrow)
       go_ret2
       obtain ⟨g5, c5, rfl⟩ := ownsRow_succ HO5.out
       refine ⟨g5, c5, by simp, ?_, HB5.out⟩
       have := HO5.out
       simpa using this
   · have hn1 : n = 1 := by omega
     subst hn1
     have hw0 := congrArg List.length (TM.wayL_nil (lo := lo) (i := i) hn)
     rw [hw0] at hw
     obtain rfl := List.eq_nil_of_length_eq_zero hw
     unfold TM.rights
     rw [TM.wayL_nil hn]
     have HL := Lib.hid (rleaf_any s hs)
     clear ih hr hw hw0 h32
     go_enter Tryz.func52, Tryz.ntmps52
     go_wp2_with (go_at_call 83; with_reducible refine (HL.out _).mono ?_; rintro e w1 ⟨rfl, hb⟩; have HB1 := Lib.hid hb; clear hb)
     go_ret2
     exact ⟨_, _, rfl, own_new _ _ 9 [.string (TM.leafB s)] HB1.out.size (by show 1 ≤ maxLen; decide), below_alloc HB1.out _⟩
end Go.Proofs.YtjlpjpjodhkpdaaGreatDoor
