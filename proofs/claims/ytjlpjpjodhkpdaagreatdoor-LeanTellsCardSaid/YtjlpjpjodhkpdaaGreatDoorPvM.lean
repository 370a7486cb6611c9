/- tree.Check in plain Lean (out of chapter 03's texts). · lean.Proved at any certificate: are all events proved? -/
import Derived.Test.YtjlpjpjodhkpdaaGreatDoorQT
import Derived.Test.YtjlpjpjodhkpdaaGreatDoorCm4
import Derived.Test.YtjlpjpjodhkpdaaGreatDoorEb
set_option maxHeartbeats 8000000
set_option maxRecDepth 100000
set_option linter.unusedVariables false
set_option linter.unusedSimpArgs false
namespace Go.Proofs.YtjlpjpjodhkpdaaGreatDoor
open Go.RowKit Go.Proofs.YtjlpjpjodhkpdaaGreatDoor.Q Go.Proofs.YtjlpjpjodhkpdaaGreatDoorW.PrintWords
theorem bytes_inj {a b : ByteArray} (h : a.toList = b.toList) : a = b := by
 rw [Lib.toList_data, Lib.toList_data] at h
 exact ByteArray.ext (Array.toList_inj.1 h)
theorem wrap_id {x : Int} (h0 : -9223372036854775808 ≤ x) (h1 : x < 9223372036854775808) : wrap64 x = x := by unfold wrap64; omega
theorem toList_inj {a b : ByteArray} : a.toList = b.toList ↔ a = b := ⟨bytes_inj, fun h => by rw [h]⟩
theorem rd_nat (l : List ByteArray) (i : Nat) : rdOf ByteArray.empty l (i : Int) = l.getD i ByteArray.empty := by
 unfold rdOf
 rw [Int.toNat_natCast]
theorem sumF_eq (s : ByteArray) (h : s.size ≤ 562949953421312) : sumF s = some (sumB s) := by unfold sumF; rw [if_pos h]
theorem bsum_f (s : ByteArray) (h : s.size ≤ 562949953421312) : blake_Sum.f s = some (sumB s) := sumF_eq s h
theorem lastB_get {l : List ByteArray} (h : l ≠ []) : l.getD (l.length - 1) ByteArray.empty = TM.lastB l := by
 have hl : l.length = (l.length - 1) + 1 := by
  cases l with
  | nil => exact absurd rfl h
  | cons a l => simp
 rw [List.getD_eq_getElem?_getD, last_get hl]
 rfl
theorem climbf_ok {n i : Int} {a : ByteArray} {p : List ByteArray} {x : List ByteArray} {k : Int} (h : tree_Climb.f n i a p = some (x, k)) :
 (k ≠ 0 ∧ x = []) ∨ (k = 0 ∧ x.length = (TM.wayL 0 n.toNat i.toNat).length + 2 ∧ ∀ t ∈ x, t.size ≤ 562949953421312) := by
 unfold tree_Climb.f at h
 split at h
 · obtain ⟨rfl, rfl⟩ := Prod.mk.inj (Option.some.inj h)
   exact .inl ⟨by decide, rfl⟩
 · split at h
   · obtain ⟨rfl, rfl⟩ := Prod.mk.inj (Option.some.inj h)
     exact .inl ⟨by decide, rfl⟩
   · rename_i h1 h2
     split at h
     · rename_i h3
       obtain ⟨rfl, rfl⟩ := Prod.mk.inj (Option.some.inj h)
       have hp : p.length = (TM.wayL 0 n.toNat i.toNat).length := Decidable.byContradiction fun hn => h2 (.inl hn)
       have h32 : ∀ t ∈ p, t.size = 32 := fun t ht => Decidable.byContradiction fun hn => h2 (.inr ⟨t, ht, hn⟩)
       refine .inr ⟨rfl, ?_, fun t ht => ?_⟩
       · rw [List.length_append, TM.climbF_length sumB _ _ _ (by rw [TM.rights_length, hp]), TM.rights_length]
         simp
         omega
       · rcases List.mem_append.1 ht with ht | ht
         · rw [← outK_all hp] at ht
           exact outK_size h3 h32 hp _ (Nat.le_refl _) t ht
         · obtain rfl := List.mem_singleton.1 ht
           unfold rootB
           rw [ByteArray.size_append, ByteArray.size_append, sumB_size]
           have := numB_size n.toNat
           show 1 + _ + 32 ≤ _
           omega
     · cases h
def climbR (n i : Int) (s : ByteArray) (path : List ByteArray) : List ByteArray × Int :=
 if n < 1 ∨ 4096 < n ∨ i < 0 ∨ n ≤ i then ([], 1)
 else if path.length ≠ (TM.wayL 0 n.toNat i.toNat).length ∨ ∃ p ∈ path, p.size ≠ 32 then ([], 14)
 else (TM.climbF sumB (TM.rights 0 n.toNat i.toNat) path [TM.leafB s] ++ [rootB n.toNat (sumB (TM.lastB (TM.climbF sumB (TM.rights 0 n.toNat i.toNat) path [TM.leafB s])))], 0)
theorem climb_f (n i : Int) (s : ByteArray) (path : List ByteArray) (hs : s.size ≤ 562949953421311) : tree_Climb.f n i s path = some (climbR n i s path) := by
 unfold tree_Climb.f climbR
 split
 · rfl
 · split
   · rfl
   · first | rfl | rw [if_pos hs]
theorem climbR_ok {n i : Int} {s : ByteArray} {path : List ByteArray} (h : (climbR n i s path).2 = 0) (hs : s.size ≤ 562949953421311) :
 (1 ≤ n ∧ n ≤ 4096 ∧ 0 ≤ i ∧ i < n) ∧ path.length = (TM.wayL 0 n.toNat i.toNat).length ∧ (∀ p ∈ path, p.size = 32) ∧
 (climbR n i s path).1 = TM.climbF sumB (TM.rights 0 n.toNat i.toNat) path [TM.leafB s] ++ [rootB n.toNat (sumB (TM.lastB (TM.climbF sumB (TM.rights 0 n.toNat i.toNat) path [TM.leafB s])))] ∧
 (climbR n i s path).1.length = (TM.wayL 0 n.toNat i.toNat).length + 2 ∧ ∀ t ∈ (climbR n i s path).1, t.size ≤ 562949953421312 := by
 have ho := climbf_ok (climb_f n i s path hs)
 rcases ho with ⟨h1, _⟩ | ⟨_, h2, h3⟩
 · exact absurd h h1
 · refine ⟨?_, ?_, ?_, ?_, h2, h3⟩
   all_goals
    unfold climbR at h
    try unfold climbR
    split at h
    · cases h
    · split at h
      · cases h
      · rename_i h4 h5
        first
         | omega
         | exact Decidable.byContradiction fun hn => h5 (.inl hn)
         | exact fun p hp => Decidable.byContradiction fun hn => h5 (.inr ⟨p, hp, hn⟩)
         | rw [if_neg h4, if_neg h5]
theorem climb_le12 {n i : Int} {s : ByteArray} {path : List ByteArray} (h : (climbR n i s path).2 = 0) : (TM.wayL 0 n.toNat i.toNat).length ≤ 12 := by
 unfold climbR at h
 split at h
 · cases h
 · exact TM.way_le 12 _ 0 _ (by omega)
def checkR (root : ByteArray) (n i : Int) (s : ByteArray) (path : List ByteArray) : Int :=
 if (climbR n i s path).2 = 0 then (if sumB (TM.lastB (climbR n i s path).1) = root then 0 else 13) else (climbR n i s path).2
theorem check_f (root : ByteArray) (n i : Int) (s : ByteArray) (path : List ByteArray) (hs : s.size ≤ 562949953421311) : tree_Check.f root n i s path = some (checkR root n i s path) := by
 unfold tree_Check.f checkR
 rw [climb_f n i s path hs]
 simp only [Option.bind_some]
 by_cases h : (climbR n i s path).2 = 0
 · obtain ⟨_, _, _, _, hl, ht⟩ := climbR_ok h hs
   rw [if_pos h, if_pos h]
   generalize (climbR n i s path).1 = L at *
   have hne : L ≠ [] := by rintro rfl; simp at hl
   have h12 : L.length ≤ 9223372036854775806 := by
    have := climb_le12 h
    omega
   have hwL : wrap64 ((L.length : Int) - 1) = ((L.length - 1 : Nat) : Int) := by rw [wrap_id (by omega) (by omega)]; omega
   have hml : TM.lastB L ∈ L := by
    have := TM.snoc_of hne
    rw [this, TM.lastB_snoc]
    simp
   simp only [hwL, rd_nat, lastB_get hne]
   rw [if_pos (by omega), if_pos (by omega), bsum_f _ (ht _ hml)]
   simp only [Option.bind_some, toList_inj]
   split <;> rfl
 · rw [if_neg h, if_neg h]
end Go.Proofs.YtjlpjpjodhkpdaaGreatDoor
namespace Go.Proofs.YtjlpjpjodhkpdaaGreatDoor
open Go.RowKit Go.Proofs.YtjlpjpjodhkpdaaGreatDoor.Q Go.Proofs.YtjlpjpjodhkpdaaGreatDoorW.PrintWords
def chkP (root : ByteArray) (count : Int) (p : Prf) : Int := checkR root count p.f0 (evBytes p.f1) p.f2
def prLoop (root : ByteArray) (count : Int) : Int → List Prf → Bool
 | _, [] => true
 | last, p :: r => decide (last < p.f0) && (decide (chkP root count p = 0) && prLoop root count p.f0 r)
theorem prLoop_cons (root : ByteArray) (count last : Int) (p : Prf) (r : List Prf) : prLoop root count last (p :: r) = (decide (last < p.f0) && (decide (chkP root count p = 0) && prLoop root count p.f0 r)) := rfl
def lnProved (c : CertD) (root : ByteArray) : Int := if certB c then (if c.root = root then (if prLoop root c.count (-1) c.proofs then 0 else 14) else 13) else 1
theorem evBytes_size (e : Evn) (h : evB e = true) : (evBytes e).size ≤ 1000 := by
 rw [evB_eq] at h
 have h := of_decide_eq_true h
 unfold evOk at h
 unfold evBytes evHead
 split
 · rw [ByteArray.size_append, ByteArray.size_append, strOfNums_size, lumpB_size, lumpB_size]
   simp
   omega
 · rw [strOfNums_size]
   simp
theorem drop_P (l : List Prf) (i : Nat) (h : i < l.length) : l.drop i = rd_T55 l (i : Int) :: l.drop (i + 1) := by
 rw [List.drop_eq_getElem_cons h, rdT_nat, List.getD_eq_getElem?_getD, List.getElem?_eq_getElem h]
 rfl
theorem rdP_mem (l : List Prf) (i : Nat) (h : i < l.length) : rd_T55 l (i : Int) ∈ l := by
 rw [rdT_nat, List.getD_eq_getElem?_getD, List.getElem?_eq_getElem h]
 exact List.getElem_mem h
theorem lnProved_any (tenant : ByteArray) (seq : Int) (prev root : ByteArray) (count level : Int) (accept : Bool) (A2 : Option Addr) (c2 : Nat) (order : List Int) (bk bi bj : Int) (A6 : Option Addr) (c6 : Nat) (ring : List Edg) (A7 : Option Addr) (c7 : Nat) (proofs : List Prf) (top : ByteArray) (w : World) (hT : Tabs w) (h2 : Kd.C (Kd.int .i64) w A2 order.length order) (h6 : Kd.C k32 w A6 ring.length ring) (h7 : Kd.C k55 w A7 proofs.length proofs) :
 Calls Tryz.prog 10 #[.agg #[.string tenant, .int .i64 seq, .string prev, .string root, .int .i64 count, .int .i64 level, .bool accept, .slice A2 order.length c2, .int .i64 bk, .int .i64 bi, .int .i64 bj, .slice A6 ring.length c6, .slice A7 proofs.length c7], .string top] w fun e w' => e = .returned (.int .i64 (lnProved ⟨tenant, seq, prev, root, count, level, accept, order, bk, bi, bj, ring, proofs⟩ top)) ∧ Below w.heap.size w w' := by
 obtain ⟨w1, hw1⟩ : ∃ w1, w1 = w.alloc (.cells #[.string tenant, .int .i64 seq, .string prev, .string root, .int .i64 count, .int .i64 level, .bool accept, .slice A2 order.length c2, .int .i64 bk, .int .i64 bi, .int .i64 bj, .slice A6 ring.length c6, .slice A7 proofs.length c7] 30) := ⟨_, rfl⟩
 have hB1 : Below w.heap.size w w1 := by rw [hw1]; exact below_alloc (Below.refl w.heap.size w) _
 have hX1 : RowIs w1 w.heap.size 30 [.string tenant, .int .i64 seq, .string prev, .string root, .int .i64 count, .int .i64 level, .bool accept, .slice A2 order.length c2, .int .i64 bk, .int .i64 bi, .int .i64 bj, .slice A6 ring.length c6, .slice A7 proofs.length c7] := by rw [hw1]; exact RowIs.new w 30 [.string tenant, .int .i64 seq, .string prev, .string root, .int .i64 count, .int .i64 level, .bool accept, .slice A2 order.length c2, .int .i64 bk, .int .i64 bi, .int .i64 bj, .slice A6 ring.length c6, .slice A7 proofs.length c7]
 have HB1 := Lib.hid hB1; have HX1 := Lib.hid hX1
 have HM := Lib.hid (fun u (hb : Below w.heap.size w u) => certMay_any tenant seq prev root count level accept A2 c2 order bk bi bj A6 c6 ring A7 c7 proofs u (Kd.C_below h2 hb) (Kd.C_below h6 hb) (Kd.C_below h7 hb))
 have HT := Lib.hid (fun u (hb : Below w.heap.size w u) => hT.below hb hT.size)
 have HP := Lib.hid (fun u (hb : Below w.heap.size w u) => Kd.C_below h7 hb)
 obtain ⟨r, hr0⟩ : ∃ r, r = lnProved ⟨tenant, seq, prev, root, count, level, accept, order, bk, bi, bj, ring, proofs⟩ top := ⟨_, rfl⟩
 rw [← hr0]
 unfold lnProved at hr0
 dsimp only [-dreduceIte] at hr0
 have HA := Lib.hid (show certB ⟨tenant, seq, prev, root, count, level, accept, order, bk, bi, bj, ring, proofs⟩ = true → proofs.length ≤ 256 ∧ ∀ p ∈ proofs, prfB p = true from fun h => by
  unfold certB at h
  simp only [Bool.and_eq_true] at h
  exact ⟨of_decide_eq_true h.2.2.1, List.all_eq_true.1 h.2.2.2⟩)
 generalize certB ⟨tenant, seq, prev, root, count, level, accept, order, bk, bi, bj, ring, proofs⟩ = b at *
 clear hT h2 h6 h7 hX1 hB1
 cases b
 · simp only [Bool.false_eq_true, if_false] at hr0
   subst hr0
   go_enter Tryz.func10, Tryz.ntmps10
   go_wp2_with (go_at_call 32; rw [← hw1]; refine (HM.out _ HB1.out).mono ?_; rintro e w2 ⟨rfl, hb⟩; have HB2 := Lib.hid (below_step HB1.out hb); clear hb)
   go_ret
   exact ⟨rfl, HB2.out⟩
 · simp only [if_true] at hr0
   by_cases hrt : root = top
   · subst hrt
     rw [if_pos rfl] at hr0
     have HR := Lib.hid hr0
     clear hr0
     obtain ⟨hn, hall⟩ := HA.out rfl
     have HALL := Lib.hid hall
     clear hall HA
     go_enter Tryz.func10, Tryz.ntmps10
     go_wp2_with (go_at_call 32; rw [← hw1]; refine (HM.out _ HB1.out).mono ?_; rintro e w2 ⟨rfl, hb⟩; have HB2 := Lib.hid hb; have hx := HX1.out.below hb; have x3 := hx.cell (i := 3) rfl; have x6 := hx.cell (i := 12) rfl; clear hb hx)
     clear x3 x6
     go_loopw [5, 22] (fun v x u => ∃ (k : Nat) (last : Int), k ≤ proofs.length ∧ x = .int .i64 (k : Int) ∧ v = .int .i64 last ∧ Hid (prLoop root count (-1) proofs = prLoop root count last (proofs.drop k)) ∧ Below w1.heap.size w1 u) (fun _ x _ => proofs.length + 1 - (intOf x).toNat)
     case atStart => exact ⟨0, -1, by omega, rfl, rfl, Lib.hid rfl, HB2.out⟩
     case round =>
      clear HB2
      obtain ⟨k, last, hk, rfl, rfl, HL, hB⟩ := hrel
      by_cases hc : k < proofs.length
      · obtain ⟨ad, A5, c5, rfl, y0, y1, y2, y3, y4, y5, l5, C5⟩ := at_T55 (HP.out wr (below_step HB1.out hB)) (k : Int) (by omega) (by omega)
        simp only [Int.toNat_natCast] at y0 y1 y2 y3 y4 y5
        have hlt : decide ((k : Int) < (proofs.length : Int)) = true := by simp; omega
        have hlt2 : decide (k < proofs.length) = true := by simp; omega
        have hpb := HALL.out _ (rdP_mem proofs k hc)
        have hd := HL.out
        rw [drop_P proofs k hc] at hd
        rw [prLoop_cons] at hd
        have hchk : ∀ p : Prf, chkP root count p = checkR root count p.f0 (evBytes p.f1) p.f2 := fun _ => rfl
        rw [hchk] at hd
        generalize rd_T55 proofs (k : Int) = p at *
        obtain ⟨x0, ⟨x1, x2, x3, x4⟩, x5⟩ := p
        dsimp only at *
        unfold prfB at hpb
        simp only [Bool.and_eq_true] at hpb
        have hev := hpb.2.1
        have hsz := evBytes_size _ hev
        have HEB := Lib.hid (fun u => evBytes_any x1 x2 x3 x4 u)
        rw [hev] at HEB
        simp only [if_true] at HEB
        have HCK := Lib.hid (fun u (ht : Tabs u) (hc : Kd.string.C u A5 x5.length x5) => tree_Check.calls root count x0 (evBytes ⟨x1, x2, x3, x4⟩) A5 c5 x5 _ u ht hc l5 (check_f root count x0 (evBytes ⟨x1, x2, x3, x4⟩) x5 (by omega)))
        generalize checkR root count x0 (evBytes ⟨x1, x2, x3, x4⟩) x5 = ck at *
        generalize evBytes ⟨x1, x2, x3, x4⟩ = s at *
        have HC5 := Lib.hid C5; have HD := Lib.hid hd; have HBr := Lib.hid hB
        clear hchk hpb hev hsz C5 hd hB
        have xc4 := (HX1.out.below HBr.out).cell (i := 4) rfl
        have HPB := Lib.hid (below_alloc (Below.refl wr.heap.size wr) (.cells #[.int .i64 x0, .int .i64 x1, .int .i64 x2, .string x3, .string x4, .slice A5 x5.length c5] 55))
        have HPX := Lib.hid (RowIs.new wr 55 [.int .i64 x0, .int .i64 x1, .int .i64 x2, .string x3, .string x4, .slice A5 x5.length c5])
        obtain ⟨wo, hwo⟩ : ∃ wo : World, wo = wr.alloc (.cells #[.int .i64 x0, .int .i64 x1, .int .i64 x2, .string x3, .string x4, .slice A5 x5.length c5] 55) := ⟨_, rfl⟩
        rw [← hwo] at HPB HPX
        have armE : True := trivial
        by_cases g1 : x0 ≤ last
        · have hh : prLoop root count (-1) proofs = false := HD.out.trans (by rw [decide_eq_false (by omega)]; rfl)
          obtain rfl : r = 14 := HR.out.trans (by rw [hh]; rfl)
          go_wp2_with (first | (go_at_call 33; rw [← hwo]; refine (HEB.out _).mono ?_; rintro e w4 ⟨rfl, hb⟩; have HB4 := Lib.hid (below_step HPB.out hb); have hp := HPX.out.below hb; have p0 := hp.cell (i := 0) rfl; clear hb hp))
          go_ret
          exact ⟨rfl, below_step (below_step HB1.out HBr.out) HB4.out⟩
        · by_cases g2 : ck = 0
          · subst g2
            have hh : prLoop root count (-1) proofs = prLoop root count x0 (proofs.drop (k + 1)) := HD.out.trans (by rw [decide_eq_true (show last < x0 by omega)]; rfl)
            have HH := Lib.hid hh
            clear hh HD
            go_wp2_with (first | (go_at_call 33; rw [← hwo]; refine (HEB.out _).mono ?_; rintro e w4 ⟨rfl, hb⟩; have HB4 := Lib.hid (below_step HPB.out hb); have hp := HPX.out.below hb; have HPX4 := Lib.hid hp; have p0 := hp.cell (i := 0) rfl; have p5 := hp.cell (i := 5) rfl; have q4 := pw_cell_below HB4.out xc4; clear hb hp) | (go_at_call 34; refine (HCK.out _ (HT.out _ (below_step (below_step HB1.out HBr.out) HB4.out)) (Kd.C_below HC5.out HB4.out)).mono ?_; rintro e w5 ⟨rfl, hb⟩; have HB5 := Lib.hid (below_step HB4.out hb); have hp := HPX4.out.below hb; have z0 := hp.cell (i := 0) rfl; clear hb hp))
            go_roundw
            case rel => exact ⟨k + 1, x0, by omega, by go_num, rfl, HH, below_step HBr.out HB5.out⟩
            case measure => simp [intOf]; omega
          · have hh : prLoop root count (-1) proofs = false := HD.out.trans (by rw [decide_eq_true (show last < x0 by omega), decide_eq_false g2]; rfl)
            obtain rfl : r = 14 := HR.out.trans (by rw [hh]; rfl)
            have g2b : (ck != 0) = true := bne_iff_ne.mpr g2
            go_wp2_with (first | (go_at_call 33; rw [← hwo]; refine (HEB.out _).mono ?_; rintro e w4 ⟨rfl, hb⟩; have HB4 := Lib.hid (below_step HPB.out hb); have hp := HPX.out.below hb; have HPX4 := Lib.hid hp; have p0 := hp.cell (i := 0) rfl; have p5 := hp.cell (i := 5) rfl; have q4 := pw_cell_below HB4.out xc4; clear hb hp) | (go_at_call 34; refine (HCK.out _ (HT.out _ (below_step (below_step HB1.out HBr.out) HB4.out)) (Kd.C_below HC5.out HB4.out)).mono ?_; rintro e w5 ⟨rfl, hb⟩; have HB5 := Lib.hid (below_step HB4.out hb); clear hb))
            go_ret
            exact ⟨rfl, below_step (below_step HB1.out HBr.out) HB5.out⟩
      · have e : k = proofs.length := by omega
        have hlt : decide ((k : Int) < (proofs.length : Int)) = false := by simp; omega
        have hlt2 : decide (k < proofs.length) = false := by simp; omega
        have hh : prLoop root count (-1) proofs = true := HL.out.trans (by rw [e, List.drop_length]; rfl)
        obtain rfl : r = 0 := HR.out.trans (by rw [hh]; rfl)
        go_wp2
        go_ret
        exact ⟨rfl, below_step HB1.out hB⟩
   · rw [if_neg hrt] at hr0
     subst hr0
     have t1 := ba_list_ne hrt
     have t2 : (root.toList == top.toList) = false := by rw [ba_list]; exact decide_eq_false hrt
     go_enter Tryz.func10, Tryz.ntmps10
     go_wp2_with (go_at_call 32; rw [← hw1]; refine (HM.out _ HB1.out).mono ?_; rintro e w2 ⟨rfl, hb⟩; have HB2 := Lib.hid (below_step HB1.out hb); have x3 := (HX1.out.below hb).cell (i := 3) rfl; clear hb)
     go_ret
     exact ⟨rfl, HB2.out⟩
end Go.Proofs.YtjlpjpjodhkpdaaGreatDoor
