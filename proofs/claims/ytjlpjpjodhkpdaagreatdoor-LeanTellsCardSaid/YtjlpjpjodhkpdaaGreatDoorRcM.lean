/- cartoucheref03: inputs, Climb and Clash, where the proofs stand. -/
import Derived.Test.YtjlpjpjodhkpdaaGreatDoorRefTop
import Derived.Test.YtjlpjpjodhkpdaaGreatDoorClM
import Derived.Test.YtjlpjpjodhkpdaaGreatDoorQB
import Derived.Test.YtjlpjpjodhkpdaaGreatDoorSh8
import Derived.Test.YtjlpjpjodhkpdaaGreatDoorPvM
set_option maxHeartbeats 8000000
set_option maxRecDepth 100000
set_option linter.unusedVariables false
set_option linter.unusedSimpArgs false
namespace Go.Proofs.YtjlpjpjodhkpdaaGreatDoor
open Go.RowKit Go.Proofs.YtjlpjpjodhkpdaaGreatDoor.Q Go.Proofs.YtjlpjpjodhkpdaaGreatDoorW.PrintWords
theorem climb_small : ∀ (rs : List Bool) (ps out : List ByteArray), (∀ p ∈ ps, p.size = 32) → (∀ x ∈ out, x.size ≤ 562949953421312) → ∀ x ∈ TM.climbF sumB rs ps out, x.size ≤ 562949953421312
 | r :: rs, p :: ps, out, hp, ho, x, hx => by
   rw [TM.climbF] at hx
   refine climb_small rs ps _ (fun q hq => hp q (by simp [hq])) (fun y hy => ?_) x hx
   rcases List.mem_append.1 hy with h | h
   · exact ho y h
   · rw [List.mem_singleton] at h
     subst h
     have := hp p (by simp)
     have h1 : (⟨#[1]⟩ : ByteArray).size = 1 := rfl
     unfold TM.stepB TM.nodeB
     split <;> simp only [ByteArray.size_append, sumB_size, this, h1] <;> decide
 | [], _, out, _, ho, x, hx => ho x (by simpa [TM.climbF] using hx)
 | _ :: _, [], out, _, ho, x, hx => ho x (by simpa [TM.climbF] using hx)
theorem leafB_small {s : ByteArray} (hs : s.size ≤ 562949953421311) : ∀ x ∈ [TM.leafB s], x.size ≤ 562949953421312 := fun x hx => by
 rw [List.mem_singleton] at hx
 subst hx
 have h1 : (⟨#[0]⟩ : ByteArray).size = 1 := rfl
 unfold TM.leafB
 rw [ByteArray.size_append, h1]
 omega
theorem last_mem {l : List ByteArray} {k : Nat} (h : l.length = k + 1) : TM.lastB l ∈ l := List.mem_of_getElem? (last_get h)
theorem inputs_any (s : ByteArray) (hs : s.size ≤ 562949953421311) : ∀ (n lo i : Nat) (path : List ByteArray) (A0 : Option Addr) (c0 : Nat) (w : World), lo ≤ i → i < lo + n → n ≤ 4096 → path.length = (TM.wayL lo n i).length → (∀ p ∈ path, p.size = 32) → Kd.C Kd.string w A0 path.length path → path.length ≤ c0 →
 Calls Tryz.prog 52 #[.int .i64 (n : Int), .int .i64 ((i - lo : Nat) : Int), .string s, .slice A0 path.length c0] w fun e w' => ∃ g c, e = .returned (.tuple #[.slice (some ⟨g, 0, none⟩) (path.length + 1) c, .bool true]) ∧ w'.ownsRow w.heap.size 9 1 (.slice (some ⟨g, 0, none⟩) (path.length + 1) c) (path.length + 1) ((TM.climbF sumB (TM.rights lo n i) path [TM.leafB s]).map .string) ∧ Below w.heap.size w w' := by
 intro n
 induction n using Nat.strongRecOn with
 | ind n ih =>
   intro lo i path A0 c0 w h0 h1 hmax hw h32 hr hc
   obtain ⟨i0, hi0, hz0, hz1, hz2⟩ := info_parts infoStr
   have h12 := TM.way_le 12 n lo i hmax
   by_cases hn : 1 < n
   · have hne : path ≠ [] := by
      rintro rfl
      by_cases hi : i < lo + TM.halfN n
      · rw [TM.wayL_right hn hi] at hw; simp at hw
      · rw [TM.wayL_left hn hi] at hw; simp at hw
     have hb1 := TM.half_lt n hn; have hb2 := TM.half_pos n
     obtain ⟨init, last, rfl⟩ := (List.eq_nil_or_concat path).resolve_left hne
     simp only [List.concat_eq_append] at *
     have hpl : (init ++ [last]).length = init.length + 1 := by simp
     rw [hpl] at hw hr hc ⊢
     have hrI : Kd.C Kd.string w A0 init.length init := by
      have := Kd.C_take (m := init.length) (xs := init ++ [last]) (w := w) (A := A0) (by rw [hpl]; exact hr) (by simp)
      rwa [List.take_left] at this
     obtain ⟨ad, rfl, hcell⟩ := Kd.at_string hr (init.length : Int) (by omega) (by omega)
     have ern : rdOf ByteArray.empty (init ++ [last]) (init.length : Int) = last := by simp [rdOf]
     rw [ern, Int.toNat_natCast] at hcell
     have hcut := cut_to 45 9 .i64 Tryz.underlying45 hi0 (some ad) (init.length + 1) c0 (init.length : Int) (by omega) (by omega) hc
     rw [Int.toNat_natCast] at hcut
     have hne1 : ((n : Int) == 1) = false := beq_eq_false_iff_ne.mpr (by omega)
     clear hr hne ern hpl
     have hm12 : init.length + 1 ≤ 12 := by omega
     by_cases hi : i < lo + TM.halfN n
     · have IH := fun u hu => ih (TM.halfN n) (by omega) lo i init (some ad) c0 u (by omega) (by omega) (by omega) (by have h := hw; rw [TM.wayL_right hn hi, List.length_cons] at h; omega) (fun p hp => h32 p (by simp [hp])) hu (by omega)
       have hrl := TM.rights_right hn hi
       have hwl := congrArg List.length (TM.wayL_right hn hi)
       have hlen : init.length = (TM.rights lo (TM.halfN n) i).length := by rw [TM.rights_length]; have h := hw; rw [hwl, List.length_cons] at h; omega
       have hcl := TM.climbF_snoc sumB (TM.rights lo (TM.halfN n) i) init true last [TM.leafB s] hlen.symm
       rw [hrl, hcl]
       have hL : (TM.climbF sumB (TM.rights lo (TM.halfN n) i) init [TM.leafB s]).length = init.length + 1 := by rw [TM.climbF_length sumB _ _ _ hlen.symm, ← hlen]; simp; omega
       have hlg := last_get hL
       have hsm := climb_small (TM.rights lo (TM.halfN n) i) init [TM.leafB s] (fun p hp => h32 p (by simp [hp])) (leafB_small hs) _ (last_mem hL)
       have hl32 := h32 last (by simp)
       have HS := Lib.hid (fun u => rsum_any _ hsm u)
       have HNd := Lib.hid (rnode_any (sumB (TM.lastB (TM.climbF sumB (TM.rights lo (TM.halfN n) i) init [TM.leafB s]))) last (by rw [sumB_size, hl32]; decide))
       have ei : ((i - lo : Nat) : Int) = ((i - lo : Nat) : Int) := by omega
       have en : ((TM.halfN n : Nat) : Int) = (TM.halfN n : Int) := by have := TM.half_lt n hn; omega
       rw [ei, en] at IH
       have hdi : decide (((i - lo : Nat) : Int) < (TM.halfN n : Int)) = true := by simp; omega
       have hdi2 : decide (i - lo < TM.halfN n) = true := by simp; omega
       have HIH := Lib.hid (fun u (hb : Below w.heap.size w u) => IH u (Kd.C_below hrI hb))
       have hst : TM.stepB true (sumB (TM.lastB (TM.climbF sumB (TM.rights lo (TM.halfN n) i) init [TM.leafB s]))) last = TM.nodeB (sumB (TM.lastB (TM.climbF sumB (TM.rights lo (TM.halfN n) i) init [TM.leafB s]))) last := rfl
       rw [hst]
       generalize TM.lastB (TM.climbF sumB (TM.rights lo (TM.halfN n) i) init [TM.leafB s]) = lst at *
       generalize TM.climbF sumB (TM.rights lo (TM.halfN n) i) init [TM.leafB s] = out at *
       generalize sumB lst = sl at *
       have HLG := Lib.hid hlg
       have HHf := Lib.hid (rhalf_any n (by omega))
       clear IH hrl hwl hlen hcl hL hlg hsm hl32 ei en hst hs h32 hw ih hrI
       generalize TM.nodeB sl last = nd at *
       generalize TM.halfN n = hk at *
       have hm12 : init.length + 1 ≤ 12 := hm12
       generalize hil : init.length = m at *
       generalize hii : (i - lo : Nat) = ii at *
       have WM := Lib.hid (show wrap64 (m : Int) = m by unfold wrap64; omega)
       have WN := Lib.hid (show wrap64 ((n : Int) - (hk : Int)) = (n : Int) - (hk : Int) by unfold wrap64; omega)
       have WI := Lib.hid (show wrap64 ((ii : Int) - (hk : Int)) = (ii : Int) - (hk : Int) by unfold wrap64; omega)
       clear hm12 hii hil
       go_enter Tryz.func52, Tryz.ntmps52
       go_wp2_with (go_at_call 55; refine Pause'.out ?_)
       constructor
       refine (HHf.out _).mono ?_
       rintro e w1 ⟨rfl, hb⟩
       have HB1 := Lib.hid hb
       replace hcell := pw_cell_below hb hcell
       clear hb HHf
       have wm := WM.out
       go_wp2_with (go_at_call 52; refine Pause'.out ?_)
       constructor
       refine (HIH.out _ HB1.out).mono ?_
       rintro e w2 ⟨g, c, rfl, ho, hb⟩
       have HB2 := Lib.hid (below_step HB1.out hb)
       have HO2 := Lib.hid (own_weaken ho HB1.out.size)
       have hce := own_cell ho (k := m) (x := .string lst) (by rw [List.getElem?_map, HLG.out]; rfl)
       clear hb ho HIH hcut hcell
       go_wp2_with (go_at_call 25; refine Pause'.out ?_)
       constructor
       refine (HS.out _).mono ?_
       rintro e w3 ⟨rfl, hb⟩
       have HB3 := Lib.hid (below_step HB2.out hb)
       have HO3 := Lib.hid (Kd.own_step HO2.out hb)
       clear hb HS hce
       go_wp2_with (go_at_call 84; refine Pause'.out ?_)
       constructor
       refine (HNd.out _).mono ?_
       rintro e w4 ⟨rfl, hb⟩
       have HB4 := Lib.hid (below_step HB3.out hb)
       have HO4 := Lib.hid (Kd.own_step HO3.out hb)
       clear hb HNd
       go_wp2_with (at_builtin; refine wpList_append_own_at _ rfl _ _ 45 rfl w.heap.size 9 i0 _ 1 16 Tryz.underlying45 hi0 hz0 hz1 hz2 rfl (by decide) (.slice (some ⟨g, 0, none⟩) (m + 1) c) (m + 1) (out.map .string) rfl (HO4.out.alloc _) ⟨w4.heap.size, 0, none⟩ 1 1 [.string nd] rfl rfl (cells_new_at _ _ _ _ (by simp)) (by simp [Value.oneCell']) (by unfold maxLen; omega) (by omega) (by have := HB4.out.size; simp; omega) ?_; intro v' w5 hown hgrow _ _; have HB5 := Lib.hid (below_row HB4.out HO4.out hgrow); have HO5 := Lib.hid hown; clear hown hgrow)
       go_ret2
       obtain ⟨g5, c5, rfl⟩ := ownsRow_succ HO5.out
       refine ⟨g5, c5, by simp, ?_, HB5.out⟩
       have := HO5.out
       simpa using this
     · have IH := fun u hu => ih (n - TM.halfN n) (by omega) (lo + TM.halfN n) i init (some ad) c0 u (by omega) (by omega) (by omega) (by have h := hw; rw [TM.wayL_left hn hi, List.length_cons] at h; omega) (fun p hp => h32 p (by simp [hp])) hu (by omega)
       have hrl := TM.rights_left hn hi
       have hwl := congrArg List.length (TM.wayL_left hn hi)
       have hlen : init.length = (TM.rights (lo + TM.halfN n) (n - TM.halfN n) i).length := by rw [TM.rights_length]; have h := hw; rw [hwl, List.length_cons] at h; omega
       have hcl := TM.climbF_snoc sumB (TM.rights (lo + TM.halfN n) (n - TM.halfN n) i) init false last [TM.leafB s] hlen.symm
       rw [hrl, hcl]
       have hL : (TM.climbF sumB (TM.rights (lo + TM.halfN n) (n - TM.halfN n) i) init [TM.leafB s]).length = init.length + 1 := by rw [TM.climbF_length sumB _ _ _ hlen.symm, ← hlen]; simp; omega
       have hlg := last_get hL
       have hsm := climb_small (TM.rights (lo + TM.halfN n) (n - TM.halfN n) i) init [TM.leafB s] (fun p hp => h32 p (by simp [hp])) (leafB_small hs) _ (last_mem hL)
       have hl32 := h32 last (by simp)
       have HS := Lib.hid (fun u => rsum_any _ hsm u)
       have HNd := Lib.hid (rnode_any last (sumB (TM.lastB (TM.climbF sumB (TM.rights (lo + TM.halfN n) (n - TM.halfN n) i) init [TM.leafB s]))) (by rw [sumB_size, hl32]; decide))
       have ei : ((i - (lo + TM.halfN n) : Nat) : Int) = ((i - lo : Nat) : Int) - (TM.halfN n : Int) := by omega
       have en : ((n - TM.halfN n : Nat) : Int) = (n : Int) - (TM.halfN n : Int) := by have := TM.half_lt n hn; omega
       rw [ei, en] at IH
       have hdi : decide (((i - lo : Nat) : Int) < (TM.halfN n : Int)) = false := by simp; omega
       have hdi2 : decide (i - lo < TM.halfN n) = false := by simp; omega
       have HIH := Lib.hid (fun u (hb : Below w.heap.size w u) => IH u (Kd.C_below hrI hb))
       have hst : TM.stepB false (sumB (TM.lastB (TM.climbF sumB (TM.rights (lo + TM.halfN n) (n - TM.halfN n) i) init [TM.leafB s]))) last = TM.nodeB last (sumB (TM.lastB (TM.climbF sumB (TM.rights (lo + TM.halfN n) (n - TM.halfN n) i) init [TM.leafB s]))) := rfl
       rw [hst]
       generalize TM.lastB (TM.climbF sumB (TM.rights (lo + TM.halfN n) (n - TM.halfN n) i) init [TM.leafB s]) = lst at *
       generalize TM.climbF sumB (TM.rights (lo + TM.halfN n) (n - TM.halfN n) i) init [TM.leafB s] = out at *
       generalize sumB lst = sl at *
       have HLG := Lib.hid hlg
       have HHf := Lib.hid (rhalf_any n (by omega))
       clear IH hrl hwl hlen hcl hL hlg hsm hl32 ei en hst hs h32 hw ih hrI
       generalize TM.nodeB last sl = nd at *
       generalize TM.halfN n = hk at *
       have hm12 : init.length + 1 ≤ 12 := hm12
       generalize hil : init.length = m at *
       generalize hii : (i - lo : Nat) = ii at *
       have WM := Lib.hid (show wrap64 (m : Int) = m by unfold wrap64; omega)
       have WN := Lib.hid (show wrap64 ((n : Int) - (hk : Int)) = (n : Int) - (hk : Int) by unfold wrap64; omega)
       have WI := Lib.hid (show wrap64 ((ii : Int) - (hk : Int)) = (ii : Int) - (hk : Int) by unfold wrap64; omega)
       clear hm12 hii hil
       go_enter Tryz.func52, Tryz.ntmps52
       go_wp2_with (go_at_call 55; refine Pause'.out ?_)
       constructor
       refine (HHf.out _).mono ?_
       rintro e w1 ⟨rfl, hb⟩
       have HB1 := Lib.hid hb
       replace hcell := pw_cell_below hb hcell
       clear hb HHf
       have wm := WM.out
       have wn := WN.out; have wi := WI.out
       go_wp2_with (go_at_call 52; refine Pause'.out ?_)
       constructor
       refine (HIH.out _ HB1.out).mono ?_
       rintro e w2 ⟨g, c, rfl, ho, hb⟩
       have HB2 := Lib.hid (below_step HB1.out hb)
       have HO2 := Lib.hid (own_weaken ho HB1.out.size)
       have hce := own_cell ho (k := m) (x := .string lst) (by rw [List.getElem?_map, HLG.out]; rfl)
       clear hb ho HIH hcut hcell
       go_wp2_with (go_at_call 25; refine Pause'.out ?_)
       constructor
       refine (HS.out _).mono ?_
       rintro e w3 ⟨rfl, hb⟩
       have HB3 := Lib.hid (below_step HB2.out hb)
       have HO3 := Lib.hid (Kd.own_step HO2.out hb)
       clear hb HS hce
       go_wp2_with (go_at_call 84; refine Pause'.out ?_)
       constructor
       refine (HNd.out _).mono ?_
       rintro e w4 ⟨rfl, hb⟩
       have HB4 := Lib.hid (below_step HB3.out hb)
       have HO4 := Lib.hid (Kd.own_step HO3.out hb)
       clear hb HNd
       go_wp2_with (at_builtin; refine wpList_append_own_at _ rfl _ _ 45 rfl w.heap.size 9 i0 _ 1 16 Tryz.underlying45 hi0 hz0 hz1 hz2 rfl (by decide) (.slice (some ⟨g, 0, none⟩) (m + 1) c) (m + 1) (out.map .string) rfl (HO4.out.alloc _) ⟨w4.heap.size, 0, none⟩ 1 1 [.string nd] rfl rfl (cells_new_at _ _ _ _ (by simp)) (by simp [Value.oneCell']) (by unfold maxLen; omega) (by omega) (by have := HB4.out.size; simp; omega) ?_; intro v' w5 hown hgrow _ _; have HB5 := Lib.hid (below_row HB4.out HO4.out hgrow); have HO5 := Lib.hid hown; clear hown hgrow)
       go_ret2
       obtain ⟨g5, c5, rfl⟩ := ownsRow_succ HO5.out
       refine ⟨g5, c5, by simp, ?_, HB5.out⟩
       have := HO5.out
       simpa using this
   · have hn1 : n = 1 := by omega
     subst hn1
     have hw0 := congrArg List.length (TM.wayL_nil (lo := lo) (i := i) hn)
     rw [hw0] at hw
     obtain rfl := List.eq_nil_of_length_eq_zero hw
     unfold TM.rights
     rw [TM.wayL_nil hn]
     have HL := Lib.hid (rleaf_any s hs)
     clear ih hr hw hw0 h32
     go_enter Tryz.func52, Tryz.ntmps52
     go_wp2_with (go_at_call 83; with_reducible refine (HL.out _).mono ?_; rintro e w1 ⟨rfl, hb⟩; have HB1 := Lib.hid hb; clear hb)
     go_ret2
     exact ⟨_, _, rfl, own_new _ _ 9 [.string (TM.leafB s)] HB1.out.size (by show 1 ≤ maxLen; decide), below_alloc HB1.out _⟩
theorem wrapu_id {x : Int} (h0 : 0 ≤ x) (h1 : x < 18446744073709551616) : IntKind.u64.wrap x = x := by rw [IntKind.wrap_u64]; omega
theorem beL_snoc (v : Nat) : ∀ k, beL v (k + 1) = beL (v / 256) k ++ [((v % 256 : Nat) : Int)]
 | 0 => by simp [beL]
 | k + 1 => by
   have ih := beL_snoc v k
   show _ :: beL v (k + 1) = _
   rw [ih]
   show _ = _ :: (beL (v / 256) k ++ [((v % 256 : Nat) : Int)])
   rw [Nat.pow_succ, Nat.mul_comm, ← Nat.div_div_eq_div_mul]
theorem nb_step (v : Nat) (h : 0 < v) (hv : v < 18446744073709551616) : nb v = nb (v / 256) + 1 := by
 unfold nb
 rw [if_neg (by omega)]
 simp only [show v / 256 < 1 ↔ v < 256 by omega, show v / 256 < 256 ↔ v < 65536 by omega, show v / 256 < 65536 ↔ v < 16777216 by omega, show v / 256 < 16777216 ↔ v < 4294967296 by omega, show v / 256 < 4294967296 ↔ v < 1099511627776 by omega, show v / 256 < 1099511627776 ↔ v < 281474976710656 by omega, show v / 256 < 281474976710656 ↔ v < 72057594037927936 by omega, show v / 256 < 72057594037927936 ↔ v < 18446744073709551616 by omega]
 by_cases a0 : v < 256
 · rw [if_pos a0, if_pos a0]
 rw [if_neg a0, if_neg a0]
 by_cases a1 : v < 65536
 · rw [if_pos a1, if_pos a1]
 rw [if_neg a1, if_neg a1]
 by_cases a2 : v < 16777216
 · rw [if_pos a2, if_pos a2]
 rw [if_neg a2, if_neg a2]
 by_cases a3 : v < 4294967296
 · rw [if_pos a3, if_pos a3]
 rw [if_neg a3, if_neg a3]
 by_cases a4 : v < 1099511627776
 · rw [if_pos a4, if_pos a4]
 rw [if_neg a4, if_neg a4]
 by_cases a5 : v < 281474976710656
 · rw [if_pos a5, if_pos a5]
 rw [if_neg a5, if_neg a5]
 by_cases a6 : v < 72057594037927936
 · rw [if_pos a6, if_pos a6]
 rw [if_neg a6, if_neg a6]
 rw [if_pos hv]
theorem strOf_append (xs ys : List Int) : strOfNums xs ++ strOfNums ys = strOfNums (xs ++ ys) := by
 apply ByteArray.ext
 simp [strOfNums]
theorem rnum_l0 : ∀ (m : Nat) (v : Nat) (xs : List Int) (c : Nat), nb v = m → v < 18446744073709551616 → c + m ≤ 8 → xs.length = c →
 Ev (fun k => cartoucheref01_Num.l0 k (v : Int) (strOfNums xs) (c : Int)) (strOfNums (((c + m : Nat) : Int) :: (beL v m ++ xs)))
 | 0, v, xs, c, hn, hv, hc, hx => by
   have h0 : v = 0 := by
    unfold nb at hn
    repeat' split at hn
    all_goals omega
   subst h0
   refine Ev.step (f := fun _ => some (strOfNums (((c + 0 : Nat) : Int) :: (beL 0 0 ++ xs)))) (fun k => ?_) (Ev.now _)
   simp only [cartoucheref01_Num.l0]
   rw [if_neg (by decide)]
   simp only [Option.bind_some]
   rw [if_pos (by rw [strOfNums_size, strOfNums_size]; simp; omega), strOf_append]
   simp only [beL, List.nil_append, List.cons_append, Nat.add_zero]
   rw [Int.emod_eq_of_lt (by omega) (by omega)]
 | m + 1, v, xs, c, hn, hv, hc, hx => by
   have h0 : 0 < v := by
    cases v with
    | zero => simp [nb] at hn
    | succ v => omega
   have h1 := nb_step v h0 hv
   have ih := rnum_l0 m (v / 256) (((v % 256 : Nat) : Int) :: xs) (c + 1) (by omega) (by omega) (by omega) (by simp; omega)
   have e : strOfNums (((c + 1 + m : Nat) : Int) :: (beL (v / 256) m ++ ((v % 256 : Nat) : Int) :: xs)) = strOfNums (((c + (m + 1) : Nat) : Int) :: (beL v (m + 1) ++ xs)) := by
    rw [beL_snoc, List.append_assoc, show c + 1 + m = c + (m + 1) by omega]
    rfl
   rw [e] at ih
   refine Ev.step (fun k => ?_) ih
   simp only [cartoucheref01_Num.l0]
   rw [if_pos (by omega)]
   simp only [Option.bind_some]
   rw [if_pos (by rw [strOfNums_size, strOfNums_size]; simp; omega), strOf_append, Int.tmod_eq_emod_of_nonneg (by omega), Int.tdiv_eq_ediv_of_nonneg (by omega), wrapu_id (by omega) (by omega), wrap_id (by omega) (by omega)]
   simp only [List.cons_append, List.nil_append]
   rw [show ((v : Int) % 256) % 256 = ((v % 256 : Nat) : Int) by omega, show (v : Int) / 256 = ((v / 256 : Nat) : Int) by omega, show (c : Int) + 1 = ((c + 1 : Nat) : Int) by omega]
theorem rnum_f (v : Nat) (hv : v < 18446744073709551616) : Ev (fun k => cartoucheref01_Num.f k (v : Int)) (numB v) := by
 have h := rnum_l0 (nb v) v [] 0 rfl hv (by have := nb_le v; omega) (by simp)
 simp only [Nat.zero_add, List.append_nil] at h
 exact h
theorem rroot_f (n : Nat) (c : ByteArray) (hn : n ≤ 4096) (hc : c.size ≤ 562949953421311) : Ev (fun k => cartoucheref03_RootIn.f k (n : Int) c) (rootB n c) := by
 have h9 := numB_size n
 have hg : ((⟨#[2]⟩ : ByteArray) ++ numB n).size = 1 + (numB n).size := by rw [ByteArray.size_append]; rfl
 unfold cartoucheref03_RootIn.f
 rw [wrapu_id (by omega) (by omega)]
 refine Ev.bind (rnum_f n (by omega)) ?_
 rw [if_pos (by omega), if_pos (by omega)]
 exact Ev.now _
theorem rroot_any (n : Nat) (c : ByteArray) (hn : n ≤ 4096) (hc : c.size ≤ 562949953421311) (w : World) :
 Calls Tryz.prog 21 #[.int .i64 (n : Int), .string c] w fun e w' => e = .returned (.string (rootB n c)) ∧ Below w.heap.size w w' := by
 obtain ⟨k, hk⟩ := rroot_f n c hn hc
 exact cartoucheref03_RootIn.calls k _ _ _ w (hk k (Nat.le_refl _))
def insB (N i : Nat) (s : ByteArray) (path : List ByteArray) : List ByteArray := TM.climbF sumB (TM.rights 0 N i) path [TM.leafB s]
def allB (N i : Nat) (s : ByteArray) (path : List ByteArray) : List ByteArray := insB N i s path ++ [rootB N (sumB (TM.lastB (insB N i s path)))]
theorem insB_length {N i : Nat} {s : ByteArray} {path : List ByteArray} (h : path.length = (TM.wayL 0 N i).length) : (insB N i s path).length = path.length + 1 := by
 unfold insB
 rw [TM.climbF_length sumB _ _ _ (by rw [TM.rights_length, h]), TM.rights_length, h]
 simp
 omega
theorem allB_length {N i : Nat} {s : ByteArray} {path : List ByteArray} (h : path.length = (TM.wayL 0 N i).length) : (allB N i s path).length = path.length + 2 := by
 unfold allB
 rw [List.length_append, insB_length h]
 rfl
theorem rclimb_any (N i : Nat) (s : ByteArray) (A0 : Option Addr) (c0 : Nat) (path : List ByteArray) (w : World) (hN : N ≤ 4096) (hi : i < N) (hs : s.size ≤ 562949953421311) (hw : path.length = (TM.wayL 0 N i).length) (h32 : ∀ p ∈ path, p.size = 32) (hr : Kd.C Kd.string w A0 path.length path) (hc : path.length ≤ c0) :
 Calls Tryz.prog 24 #[.int .i64 (N : Int), .int .i64 (i : Int), .string s, .slice A0 path.length c0] w fun e w' => ∃ g c, e = .returned (.tuple #[.slice (some ⟨g, 0, none⟩) (path.length + 2) c, .int .i64 0]) ∧ w'.ownsRow w.heap.size 9 1 (.slice (some ⟨g, 0, none⟩) (path.length + 2) c) (path.length + 2) ((allB N i s path).map .string) ∧ Below w.heap.size w w' := by
 obtain ⟨i0, hi0, hz0, hz1, hz2⟩ := info_parts infoStr
 have h12 := TM.way_le 12 N 0 i hN
 have hL := insB_length (s := s) hw
 have hsm := climb_small (TM.rights 0 N i) path [TM.leafB s] h32 (leafB_small hs) _ (last_mem hL)
 have HS := Lib.hid (fun u => rsum_any _ hsm u)
 have HRt := Lib.hid (fun u => rroot_any N (sumB (TM.lastB (insB N i s path))) hN (by rw [sumB_size]; decide) u)
 have HLG := Lib.hid (last_get hL)
 have HIn := Lib.hid (fun u (hb : Below w.heap.size w u) => inputs_any s hs N 0 i path A0 c0 u (Nat.zero_le _) (by omega) hN hw h32 (Kd.C_below hr hb) hc)
 simp only [Nat.sub_zero] at HIn
 unfold allB
 have H32 := Lib.hid (fun (k : Nat) (h : k < path.length) => h32 (rdOf ByteArray.empty path (k : Int)) (by simp [rdOf, h]))
 have e1 : TM.climbF sumB (TM.rights 0 N i) path [TM.leafB s] = insB N i s path := rfl
 rw [e1] at HIn hsm HS
 have HR := Lib.hid hr
 have HB0 := Lib.hid (Below.refl w.heap.size w)
 generalize insB N i s path = out at *
 generalize TM.lastB out = lst at *
 generalize sumB lst = sl at *
 generalize rootB N sl = rt at *
 have hm12 : path.length ≤ 12 := by omega
 clear hL hsm hr h32 e1 hw h12
 have hd1 : decide ((N : Int) < 1) = false := by simp; omega
 have hd2 : decide ((4096 : Int) < (N : Int)) = false := by simp; omega
 have hd3 : decide ((i : Int) < 0) = false := by simp
 have hd4 : decide ((N : Int) ≤ (i : Int)) = false := by simp; omega
 have hd5 : decide (N ≤ i) = false := by simp; omega
 go_enter Tryz.func24, Tryz.ntmps24
 go_wp2
 go_loopw [10] (fun x u => ∃ k : Nat, k ≤ path.length ∧ x = .int .i64 (k : Int) ∧ Hid (Below w.heap.size w u)) (fun x _ => path.length + 1 - (intOf x).toNat)
 case atStart => exact ⟨0, by omega, rfl, HB0⟩
 case round =>
  clear HB0
  obtain ⟨k, hk, rfl, HB1⟩ := hrel
  by_cases hkp : k < path.length
  · have hkt : decide ((k : Int) < (path.length : Int)) = true := by simp; omega
    have hkt2 : decide (k < path.length) = true := by simp; omega
    obtain ⟨ad, rfl, y0⟩ := Kd.at_string (Kd.C_below HR.out HB1.out) (k : Int) (by omega) (by omega)
    have hp := H32.out k hkp
    rw [Int.toNat_natCast] at y0
    generalize rdOf ByteArray.empty path (k : Int) = p at *
    go_wp2
    go_roundw
    case rel => exact ⟨k + 1, by omega, by go_num, HB1⟩
    case measure => simp [intOf]; omega
  · have hkt : decide ((k : Int) < (path.length : Int)) = false := by simp; omega
    have hkt2 : decide (k < path.length) = false := by simp; omega
    clear H32 HR
    generalize hpl : path.length = m at *
    have WM := Lib.hid (show wrap64 (m : Int) = m by unfold wrap64; omega)
    go_wp2_with (go_at_call 52; refine Pause'.out ?_)
    constructor
    refine (HIn.out _ HB1.out).mono ?_
    rintro e w2 ⟨g, c, rfl, ho, hb⟩
    have HB2 := Lib.hid (below_step HB1.out hb)
    have HO2 := Lib.hid (own_weaken ho HB1.out.size)
    have hce := own_cell ho (k := m) (x := .string lst) (by rw [List.getElem?_map, HLG.out]; rfl)
    clear hb ho HIn
    have wm := WM.out
    go_wp2_with (go_at_call 25; refine Pause'.out ?_)
    constructor
    refine (HS.out _).mono ?_
    rintro e w3 ⟨rfl, hb⟩
    have HB3 := Lib.hid (below_step HB2.out hb)
    have HO3 := Lib.hid (Kd.own_step HO2.out hb)
    clear hb HS hce
    go_wp2_with (go_at_call 21; refine Pause'.out ?_)
    constructor
    refine (HRt.out _).mono ?_
    rintro e w4 ⟨rfl, hb⟩
    have HB4 := Lib.hid (below_step HB3.out hb)
    have HO4 := Lib.hid (Kd.own_step HO3.out hb)
    clear hb HRt
    go_wp2_with (at_builtin; refine wpList_append_own_at _ rfl _ _ 45 rfl w.heap.size 9 i0 _ 1 16 Tryz.underlying45 hi0 hz0 hz1 hz2 rfl (by decide) (.slice (some ⟨g, 0, none⟩) (m + 1) c) (m + 1) (out.map .string) rfl (HO4.out.alloc _) ⟨w4.heap.size, 0, none⟩ 1 1 [.string rt] rfl rfl (cells_new_at _ _ _ _ (by simp)) (by simp [Value.oneCell']) (by unfold maxLen; omega) (by omega) (by have := HB4.out.size; simp; omega) ?_; intro v' w5 hown hgrow _ _; have HB5 := Lib.hid (below_row HB4.out HO4.out hgrow); have HO5 := Lib.hid hown; clear hown hgrow)
    go_ret2
    obtain ⟨g5, c5, rfl⟩ := ownsRow_succ HO5.out
    subst hpl
    refine ⟨g5, c5, by simp, ?_, HB5.out⟩
    have := HO5.out
    simpa using this
def Cl (X Y : List ByteArray) : Prop := ∃ (k : Nat) (x y : ByteArray), X[k]? = some x ∧ Y[k]? = some y ∧ x ≠ y ∧ sumB x = sumB y ∧ ∀ j, k < j → X[j]? = Y[j]?
theorem Cl.snoc {X Y : List ByteArray} {x y : ByteArray} (hl : X.length = Y.length) (hs : sumB x = sumB y) (h : x = y → Cl X Y) : Cl (X ++ [x]) (Y ++ [y]) := by
 by_cases e : x = y
 · obtain ⟨k, a, b, h1, h2, h3, h4, h5⟩ := h e
   have l1 := (List.getElem?_eq_some_iff.1 h1).1
   have l2 := (List.getElem?_eq_some_iff.1 h2).1
   refine ⟨k, a, b, by rw [List.getElem?_append_left l1]; exact h1, by rw [List.getElem?_append_left l2]; exact h2, h3, h4, fun j hj => ?_⟩
   by_cases hx : j < X.length
   · rw [List.getElem?_append_left hx, List.getElem?_append_left (by omega)]; exact h5 j hj
   · rw [List.getElem?_append_right (by omega), List.getElem?_append_right (by omega), hl, e]
 · refine ⟨X.length, x, y, by simp, by rw [hl]; simp, e, hs, fun j hj => ?_⟩
   rw [List.getElem?_eq_none (by simp; omega), List.getElem?_eq_none (by simp; omega)]
theorem inputs_no (s : ByteArray) (hs : s.size ≤ 562949953421311) : ∀ (n lo i : Nat) (path : List ByteArray) (A0 : Option Addr) (c0 : Nat) (w : World), lo ≤ i → i < lo + n → n ≤ 4096 → path.length ≠ (TM.wayL lo n i).length → path.length ≤ 12 → Kd.C Kd.string w A0 path.length path → path.length ≤ c0 →
 Calls Tryz.prog 52 #[.int .i64 (n : Int), .int .i64 ((i - lo : Nat) : Int), .string s, .slice A0 path.length c0] w fun e w' => ∃ v, e = .returned (.tuple #[v, .bool false]) ∧ Below w.heap.size w w' := by
 intro n
 induction n using Nat.strongRecOn with
 | ind n ih =>
   intro lo i path A0 c0 w h0 h1 hmax hw h12 hr hc
   obtain ⟨i0, hi0, hz0, hz1, hz2⟩ := info_parts infoStr
   by_cases hn : 1 < n
   · have hne1 : ((n : Int) == 1) = false := beq_eq_false_iff_ne.mpr (by omega)
     rcases List.eq_nil_or_concat path with rfl | ⟨init, last, rfl⟩
     · clear ih hr hw
       go_enter Tryz.func52, Tryz.ntmps52
       go_wp2
       go_ret2
       exact ⟨_, rfl, Below.refl _ _⟩
     have hb1 := TM.half_lt n hn; have hb2 := TM.half_pos n
     simp only [List.concat_eq_append] at *
     have hpl : (init ++ [last]).length = init.length + 1 := by simp
     rw [hpl] at hw hr hc h12 ⊢
     have hrI : Kd.C Kd.string w A0 init.length init := by
      have := Kd.C_take (m := init.length) (xs := init ++ [last]) (w := w) (A := A0) (by rw [hpl]; exact hr) (by simp)
      rwa [List.take_left] at this
     obtain ⟨ad, rfl, hcell⟩ := Kd.at_string hr (init.length : Int) (by omega) (by omega)
     have ern : rdOf ByteArray.empty (init ++ [last]) (init.length : Int) = last := by simp [rdOf]
     rw [ern, Int.toNat_natCast] at hcell
     have hcut := cut_to 45 9 .i64 Tryz.underlying45 hi0 (some ad) (init.length + 1) c0 (init.length : Int) (by omega) (by omega) hc
     rw [Int.toNat_natCast] at hcut
     have HHf := Lib.hid (rhalf_any n (by omega))
     clear hr ern hpl
     by_cases hi : i < lo + TM.halfN n
     · have IH := fun u hu => ih (TM.halfN n) (by omega) lo i init (some ad) c0 u (by omega) (by omega) (by omega) (by have h := hw; rw [TM.wayL_right hn hi, List.length_cons] at h; omega) (by omega) hu (by omega)
       have hdi : decide (((i - lo : Nat) : Int) < (TM.halfN n : Int)) = true := by simp; omega
       have hdi2 : decide (i - lo < TM.halfN n) = true := by simp; omega
       have HIH := Lib.hid (fun u (hb : Below w.heap.size w u) => IH u (Kd.C_below hrI hb))
       clear IH hs hw ih hrI
       generalize TM.halfN n = hk at *
       generalize hil : init.length = m at *
       generalize hii : (i - lo : Nat) = ii at *
       have WM := Lib.hid (show wrap64 (m : Int) = m by unfold wrap64; omega)
       clear h12 hii hil
       go_enter Tryz.func52, Tryz.ntmps52
       go_wp2_with (go_at_call 55; refine Pause'.out ?_)
       constructor
       refine (HHf.out _).mono ?_
       rintro e w1 ⟨rfl, hb⟩
       have HB1 := Lib.hid hb
       replace hcell := pw_cell_below hb hcell
       clear hb HHf
       have wm := WM.out
       go_wp2_with (go_at_call 52; refine Pause'.out ?_)
       constructor
       refine (HIH.out _ HB1.out).mono ?_
       rintro e w2 ⟨v, rfl, hb⟩
       have HB2 := Lib.hid (below_step HB1.out hb)
       clear hb HIH hcut hcell
       go_wp2
       go_ret2
       exact ⟨_, rfl, HB2.out⟩
     · have IH := fun u hu => ih (n - TM.halfN n) (by omega) (lo + TM.halfN n) i init (some ad) c0 u (by omega) (by omega) (by omega) (by have h := hw; rw [TM.wayL_left hn hi, List.length_cons] at h; omega) (by omega) hu (by omega)
       have ei : ((i - (lo + TM.halfN n) : Nat) : Int) = ((i - lo : Nat) : Int) - (TM.halfN n : Int) := by omega
       have en : ((n - TM.halfN n : Nat) : Int) = (n : Int) - (TM.halfN n : Int) := by omega
       rw [ei, en] at IH
       have hdi : decide (((i - lo : Nat) : Int) < (TM.halfN n : Int)) = false := by simp; omega
       have hdi2 : decide (i - lo < TM.halfN n) = false := by simp; omega
       have HIH := Lib.hid (fun u (hb : Below w.heap.size w u) => IH u (Kd.C_below hrI hb))
       clear IH hs hw ih hrI ei en
       generalize TM.halfN n = hk at *
       generalize hil : init.length = m at *
       generalize hii : (i - lo : Nat) = ii at *
       have WM := Lib.hid (show wrap64 (m : Int) = m by unfold wrap64; omega)
       have WN := Lib.hid (show wrap64 ((n : Int) - (hk : Int)) = (n : Int) - (hk : Int) by unfold wrap64; omega)
       have WI := Lib.hid (show wrap64 ((ii : Int) - (hk : Int)) = (ii : Int) - (hk : Int) by unfold wrap64; omega)
       clear h12 hii hil
       go_enter Tryz.func52, Tryz.ntmps52
       go_wp2_with (go_at_call 55; refine Pause'.out ?_)
       constructor
       refine (HHf.out _).mono ?_
       rintro e w1 ⟨rfl, hb⟩
       have HB1 := Lib.hid hb
       replace hcell := pw_cell_below hb hcell
       clear hb HHf
       have wm := WM.out
       have wn := WN.out; have wi := WI.out
       go_wp2_with (go_at_call 52; refine Pause'.out ?_)
       constructor
       refine (HIH.out _ HB1.out).mono ?_
       rintro e w2 ⟨v, rfl, hb⟩
       have HB2 := Lib.hid (below_step HB1.out hb)
       clear hb HIH hcut hcell
       go_wp2
       go_ret2
       exact ⟨_, rfl, HB2.out⟩
   · have hn1 : n = 1 := by omega
     subst hn1
     rw [TM.wayL_nil hn] at hw
     have hp0 : path.length ≠ 0 := hw
     have hp1 : ((path.length : Int) == 0) = false := beq_eq_false_iff_ne.mpr (by omega)
     have HL := Lib.hid (rleaf_any s hs)
     generalize path.length = m at *
     clear ih hr hw
     go_enter Tryz.func52, Tryz.ntmps52
     go_wp2_with (go_at_call 83; with_reducible refine (HL.out _).mono ?_; rintro e w1 ⟨rfl, hb⟩; have HB1 := Lib.hid hb; clear hb)
     go_ret2
     exact ⟨_, by first | rfl | (simp; omega) | simp [*], below_alloc HB1.out _⟩
theorem climbR_no {n i : Int} {s : ByteArray} {path : List ByteArray} (h : ¬ (n < 1 ∨ 4096 < n ∨ i < 0 ∨ n ≤ i)) (hl : path.length ≠ (TM.wayL 0 n.toNat i.toNat).length) : climbR n i s path = ([], 14) := by
 unfold climbR
 rw [if_neg h, if_pos (.inl hl)]
theorem climbR_yes {n i : Int} {s : ByteArray} {path : List ByteArray} (h : ¬ (n < 1 ∨ 4096 < n ∨ i < 0 ∨ n ≤ i)) (hl : path.length = (TM.wayL 0 n.toNat i.toNat).length) (h32 : ∀ p ∈ path, p.size = 32) : climbR n i s path = (allB n.toNat i.toNat s path, 0) := by
 unfold climbR
 rw [if_neg h, if_neg (by rintro (h1 | ⟨p, hp, h2⟩); exact h1 hl; exact h2 (h32 p hp))]
 rfl
theorem climbR_off {n i : Int} {s : ByteArray} {path : List ByteArray} (h : n < 1 ∨ 4096 < n ∨ i < 0 ∨ n ≤ i) : climbR n i s path = ([], 1) := by
 unfold climbR
 rw [if_pos h]
theorem rclimb_bad (n i : Int) (s : ByteArray) (A0 : Option Addr) (c0 : Nat) (path : List ByteArray) (w : World) (hs : s.size ≤ 562949953421311) (h12 : path.length ≤ 12) (h32 : ∀ p ∈ path, p.size = 32) (hr : Kd.C Kd.string w A0 path.length path) (hc : path.length ≤ c0) (hbad : (climbR n i s path).2 ≠ 0) :
 Calls Tryz.prog 24 #[.int .i64 n, .int .i64 i, .string s, .slice A0 path.length c0] w fun e w' => ∃ v, e = .returned (.tuple #[v, .int .i64 (climbR n i s path).2]) ∧ Below w.heap.size w w' := by
 have HB0 := Lib.hid (Below.refl w.heap.size w)
 by_cases ho : n < 1 ∨ 4096 < n ∨ i < 0 ∨ n ≤ i
 · rw [climbR_off ho]
   clear hbad hr h32
   by_cases d1 : n < 1
   · clear ho
     go_enter Tryz.func24, Tryz.ntmps24
     go_wp2
     go_ret2
     first | exact ⟨_, rfl, HB0.out⟩ | exact ⟨⟨_, rfl⟩, HB0.out⟩
   have e1 : decide (n < 1) = false := decide_eq_false d1
   by_cases d2 : 4096 < n
   · clear ho
     go_enter Tryz.func24, Tryz.ntmps24
     go_wp2
     go_ret2
     first | exact ⟨_, rfl, HB0.out⟩ | exact ⟨⟨_, rfl⟩, HB0.out⟩
   have e2 : decide (4096 < n) = false := decide_eq_false d2
   by_cases d3 : i < 0
   · clear ho
     go_enter Tryz.func24, Tryz.ntmps24
     go_wp2
     go_ret2
     first | exact ⟨_, rfl, HB0.out⟩ | exact ⟨⟨_, rfl⟩, HB0.out⟩
   have e3 : decide (i < 0) = false := decide_eq_false d3
   have d4 : n ≤ i := by omega
   clear ho
   go_enter Tryz.func24, Tryz.ntmps24
   go_wp2
   go_ret2
   first | exact ⟨_, rfl, HB0.out⟩ | exact ⟨⟨_, rfl⟩, HB0.out⟩
 by_cases hl : path.length = (TM.wayL 0 n.toNat i.toNat).length
 · rw [climbR_yes ho hl h32] at hbad
   exact absurd rfl hbad
 rw [climbR_no ho hl]
 obtain ⟨N, rfl⟩ : ∃ N : Nat, n = N := ⟨n.toNat, by omega⟩
 obtain ⟨I, rfl⟩ : ∃ I : Nat, i = I := ⟨i.toNat, by omega⟩
 simp only [Int.toNat_natCast] at hl
 have HIn := Lib.hid (fun u (hb : Below w.heap.size w u) => inputs_no s hs N 0 I path A0 c0 u (Nat.zero_le _) (by omega) (by omega) hl h12 (Kd.C_below hr hb) hc)
 simp only [Nat.sub_zero] at HIn
 have H32 := Lib.hid (fun (k : Nat) (h : k < path.length) => h32 (rdOf ByteArray.empty path (k : Int)) (by simp [rdOf, h]))
 have HR := Lib.hid hr
 have hd1 : decide ((N : Int) < 1) = false := by simp; omega
 have hd2 : decide ((4096 : Int) < (N : Int)) = false := by simp; omega
 have hd3 : decide ((I : Int) < 0) = false := by simp
 have hd4 : decide ((N : Int) ≤ (I : Int)) = false := by simp; omega
 have hd5 : decide (N ≤ I) = false := by simp; omega
 clear hbad hr h32 ho hl
 go_enter Tryz.func24, Tryz.ntmps24
 go_wp2
 go_loopw [10] (fun x u => ∃ k : Nat, k ≤ path.length ∧ x = .int .i64 (k : Int) ∧ Hid (Below w.heap.size w u)) (fun x _ => path.length + 1 - (intOf x).toNat)
 case atStart => exact ⟨0, by omega, rfl, HB0⟩
 case round =>
  clear HB0
  obtain ⟨k, hk, rfl, HB1⟩ := hrel
  by_cases hkp : k < path.length
  · have hkt : decide ((k : Int) < (path.length : Int)) = true := by simp; omega
    have hkt2 : decide (k < path.length) = true := by simp; omega
    obtain ⟨ad, rfl, y0⟩ := Kd.at_string (Kd.C_below HR.out HB1.out) (k : Int) (by omega) (by omega)
    have hp := H32.out k hkp
    rw [Int.toNat_natCast] at y0
    generalize rdOf ByteArray.empty path (k : Int) = p at *
    go_wp2
    go_roundw
    case rel => exact ⟨k + 1, by omega, by go_num, HB1⟩
    case measure => simp [intOf]; omega
  · have hkt : decide ((k : Int) < (path.length : Int)) = false := by simp; omega
    have hkt2 : decide (k < path.length) = false := by simp; omega
    clear H32 HR
    generalize hpl : path.length = m at *
    go_wp2_with (go_at_call 52; refine Pause'.out ?_)
    constructor
    refine (HIn.out _ HB1.out).mono ?_
    rintro e w2 ⟨v, rfl, hb⟩
    have HB2 := Lib.hid (below_step HB1.out hb)
    clear hb HIn
    go_wp2
    go_ret2
    exact ⟨_, rfl, HB2.out⟩
theorem rCheck_any (root : ByteArray) (n i : Int) (s : ByteArray) (A0 : Option Addr) (c0 : Nat) (path : List ByteArray) (w : World) (hs : s.size ≤ 562949953421311) (h12 : path.length ≤ 12) (h32 : ∀ p ∈ path, p.size = 32) (hr : Kd.C Kd.string w A0 path.length path) (hc : path.length ≤ c0) :
 Calls Tryz.prog 36 #[.string root, .int .i64 n, .int .i64 i, .string s, .slice A0 path.length c0] w fun e w' => e = .returned (.int .i64 (checkR root n i s path)) ∧ Below w.heap.size w w' := by
 unfold checkR
 by_cases h0 : (climbR n i s path).2 = 0
 · rw [if_pos h0]
   obtain ⟨⟨h1, h2, h3, h4⟩, hl, -, hx, -, hsm⟩ := climbR_ok h0 hs
   have hcr := climbR_yes (s := s) (path := path) (n := n) (i := i) (by omega) hl h32
   rw [hcr] at hx hsm ⊢
   clear hcr h0 hx
   dsimp only at hsm ⊢
   obtain ⟨N, rfl⟩ : ∃ N : Nat, n = N := ⟨n.toNat, by omega⟩
   obtain ⟨I, rfl⟩ : ∃ I : Nat, i = I := ⟨i.toNat, by omega⟩
   simp only [Int.toNat_natCast] at hl hsm ⊢
   have hL : (allB N I s path).length = (path.length + 1) + 1 := allB_length hl
   have HC := Lib.hid (rclimb_any N I s A0 c0 path w (by omega) (by omega) hs hl h32 hr hc)
   have HS := Lib.hid (fun u => rsum_any _ (hsm _ (last_mem hL)) u)
   have HLG := Lib.hid (last_get hL)
   clear hsm hL hr h32 hl hs hc
   by_cases he : sumB (TM.lastB (allB N I s path)) = root
   · rw [if_pos he]
     rw [he] at HS
     clear he
     generalize allB N I s path = out at *
     generalize TM.lastB out = lst at *
     generalize path.length = m at *
     have WM := Lib.hid (show wrap64 ((m : Int) + 2 - 1) = ((m + 1 : Nat) : Int) by unfold wrap64; omega)
     go_enter Tryz.func36, Tryz.ntmps36
     go_wp2_with (go_at_call 24; refine Pause'.out ?_)
     constructor
     refine HC.out.mono ?_
     rintro e w2 ⟨g, c, rfl, ho, hb⟩
     have HB2 := Lib.hid hb
     have hce := own_cell ho (k := m + 1) (x := .string lst) (by rw [List.getElem?_map, HLG.out]; rfl)
     have wm := WM.out
     clear hb ho HC
     go_wp2_with (go_at_call 25; refine Pause'.out ?_)
     constructor
     refine (HS.out _).mono ?_
     rintro e w3 ⟨rfl, hb⟩
     have HB3 := Lib.hid (below_step HB2.out hb)
     clear hb HS hce
     go_wp2
     go_ret
     exact ⟨rfl, HB3.out⟩
   · rw [if_neg he]
     generalize allB N I s path = out at *
     generalize TM.lastB out = lst at *
     generalize sumB lst = sl at *
     generalize path.length = m at *
     have WM := Lib.hid (show wrap64 ((m : Int) + 2 - 1) = ((m + 1 : Nat) : Int) by unfold wrap64; omega)
     have t1 := ba_list_ne he
     have t2 : (sl.toList == root.toList) = false := by rw [ba_list]; exact decide_eq_false he
     go_enter Tryz.func36, Tryz.ntmps36
     go_wp2_with (go_at_call 24; refine Pause'.out ?_)
     constructor
     refine HC.out.mono ?_
     rintro e w2 ⟨g, c, rfl, ho, hb⟩
     have HB2 := Lib.hid hb
     have hce := own_cell ho (k := m + 1) (x := .string lst) (by rw [List.getElem?_map, HLG.out]; rfl)
     have wm := WM.out
     clear hb ho HC
     go_wp2_with (go_at_call 25; refine Pause'.out ?_)
     constructor
     refine (HS.out _).mono ?_
     rintro e w3 ⟨rfl, hb⟩
     have HB3 := Lib.hid (below_step HB2.out hb)
     clear hb HS hce
     go_wp2
     go_ret
     exact ⟨rfl, HB3.out⟩
 · rw [if_neg h0]
   have HC := Lib.hid (rclimb_bad n i s A0 c0 path w hs h12 h32 hr hc h0)
   generalize (climbR n i s path).2 = k at *
   clear hr h32 hs hc
   have h0b : (k != 0) = true := bne_iff_ne.mpr h0
   go_enter Tryz.func36, Tryz.ntmps36
   go_wp2_with (go_at_call 24; refine Pause'.out ?_)
   constructor
   refine HC.out.mono ?_
   rintro e w2 ⟨v, rfl, hb⟩
   have HB2 := Lib.hid hb
   clear hb HC
   go_wp2
   go_ret
   exact ⟨rfl, HB2.out⟩
end Go.Proofs.YtjlpjpjodhkpdaaGreatDoor
