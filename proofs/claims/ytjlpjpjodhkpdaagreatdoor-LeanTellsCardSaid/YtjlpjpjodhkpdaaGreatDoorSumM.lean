/- strings.Builder's copyCheck and WriteByte, of a builder that the call itself has made. · blake.told: the words' bytes, the lowest first. · Sums, with a key or without, in plain Lean. · blake.Sum. -/
import Derived.Test.YtjlpjpjodhkpdaaGreatDoorBase
import Derived.Test.YtjlpjpjodhkpdaaGreatDoorShelf
import Derived.Lib.Builder
import Derived.Test.YtjlpjpjodhkpdaaGreatDoorBlockM
set_option maxHeartbeats 1000000
set_option maxRecDepth 100000
set_option linter.unusedVariables false
set_option linter.unusedSimpArgs false
namespace Go.Proofs.YtjlpjpjodhkpdaaGreatDoor
open Go.RowKit
theorem sizeBuilder : (Tryz.prog.info? 195).map (·.size) = some 2 := by kernel_rfl
theorem infoByte : (Tryz.prog.info? 5).map (fun i => (i.zero, i.size, i.bytes)) = some (some (.int .u8 0), 1, 1) := by kernel_rfl
theorem copyCheck_used (b : Nat) (w : World) (h0 : w.cell? ⟨b, 0, none⟩ = some (.pointer (some ⟨b, 0, none⟩))) :
 Calls Tryz.prog 153 #[.pointer (some ⟨b, 0, none⟩)] w fun e w' => e = .returned (.tuple #[]) ∧ w' = w := by
 obtain ⟨j, hj, hjs⟩ := Option.map_eq_some_iff.1 sizeBuilder
 go_enter Tryz.func153, Tryz.ntmps153
 go_wp2
 rw [Lib.run_neq_ptr_same w _ Tryz.underlying193 hj]
 go_wp2
 go_end0
 exact ⟨rfl, rfl⟩
theorem copyCheck_fresh (b : Nat) (w : World) (h0 : w.cell? ⟨b, 0, none⟩ = some (.pointer none)) (hsh : w.shape? b = some (195, 2)) (hfz : w.frozen? ⟨b, 0, none⟩ = false) :
 Calls Tryz.prog 153 #[.pointer (some ⟨b, 0, none⟩)] w fun e w' => e = .returned (.tuple #[]) ∧ w' = w.setCell ⟨b, 0, none⟩ (.pointer (some ⟨b, 0, none⟩)) := by
 obtain ⟨j, hj, hjs⟩ := Option.map_eq_some_iff.1 sizeBuilder
 go_enter Tryz.func153, Tryz.ntmps153
 go_wp2
 rw [Lib.run_to_unsafe w ⟨b, 0, none⟩ Tryz.underlying193 Tryz.underlying210 hj (by rw [hjs]; decide) hsh (Nat.zero_lt_succ 1)]
 simp only [Result.andThen]
 rw [Oper.upon_value]
 go_wp2
 rw [run_callFunc_extern Tryz.func155 (by kernel_rfl) (by kernel_rfl) (by kernel_rfl) (e := Extern.AbiNoEscape.same) (by kernel_rfl)]
 rw [Lib.run_noEscape]
 simp only [Result.andThen]
 rw [Oper.upon_value]
 go_wp2
 rw [Lib.run_from_unsafe w ⟨b, 0, none⟩ Tryz.underlying210 Tryz.underlying193 hj hsh (by kernel_rfl)]
 simp only [Result.andThen]
 rw [Oper.upon_value]
 go_wp2
 go_end0
 exact ⟨rfl, rfl⟩
theorem copyCheck_any (B b : Nat) (bs : List Value) (w : World) (h : Lib.IsBuilder 195 5 B b bs w) :
 Calls Tryz.prog 153 #[.pointer (some ⟨b, 0, none⟩)] w fun e w' => e = .returned (.tuple #[]) ∧ (Lib.BuilderAt 195 5 B b (.pointer (some ⟨b, 0, none⟩)) bs w' ∧ Below B w w') := by
 rcases h with h | h
 · refine (copyCheck_fresh b w h.cell0 h.shape h.frozen0).mono ?_
   rintro e w' ⟨rfl, rfl⟩
   exact ⟨rfl, h.used _, (Below.refl B w).setCell (p := ⟨b, 0, none⟩) h.1 _⟩
 · refine (copyCheck_used b w h.cell0).mono ?_
   rintro e w' ⟨rfl, rfl⟩
   exact ⟨rfl, h, Below.refl B _⟩
theorem writeByte (B b : Nat) (bs : List Value) (c : Int) (w : World) (h : Lib.IsBuilder 195 5 B b bs w) (hlen : bs.length + 1 ≤ 140737488355328) (hBw : B ≤ w.heap.size) :
 Calls Tryz.prog 148 #[.pointer (some ⟨b, 0, none⟩), .int .u8 c] w fun e w' => e = .returned .nilIface ∧ (Lib.IsBuilder 195 5 B b (bs ++ [.int .u8 c]) w' ∧ Below B w w') := by
 obtain ⟨i0, hi, hz0, hz1, hz2⟩ := info_parts infoByte
 go_enter Tryz.func148, Tryz.ntmps148
 go_wp2_with (go_at_call 153; refine (copyCheck_any B b bs _ h).mono ?_)
 rintro e w1 ⟨rfl, h1, hb1⟩
 obtain ⟨hB, v, hbk, hown, hne⟩ := h1
 have c0 : w1.cell? ⟨b, 0, none⟩ = some (.pointer (some ⟨b, 0, none⟩)) := by rw [Lib.cell_of_heap hbk]; rfl
 have c1 : w1.cell? ⟨b, 1, none⟩ = some v := by rw [Lib.cell_of_heap hbk]; rfl
 go_wp2_with (at_builtin; refine wpList_append_own _ rfl _ _ 90 rfl B 5 i0 (.int .u8 0) 1 1 Tryz.underlying90 hi hz0 hz1 hz2 rfl (by decide) _ _ _ rfl (hown.alloc _) ⟨w1.heap.size, 0, none⟩ 1 1 [.int .u8 c] rfl rfl ?c1 ?c2 ?c3 ?c4 ?c5 ?_)
 case c1 =>
  intro j u hj
  match j, hj with
  | 0, hj => simp at hj; subst hj; simp [Addr.add]
 case c2 => intro u hu; simp at hu; subst hu; rfl
 case c3 => unfold maxLen; omega
 case c4 => omega
 case c5 => have := hb1.size; simp; omega
 intro v' w2 hown' hgrow _
 have hlt : b < w1.heap.size := (Array.getElem?_eq_some_iff.1 hbk).1
 have hb2 : w2.heap[b]? = some (.cells #[.pointer (some ⟨b, 0, none⟩), v] 195 (0, 0)) := by
  rw [hgrow.block b (by simp; omega) (fun e => hne e.symm), Below.heap_alloc w1 _ b hlt]
  exact hbk
 have d0 : w2.cell? ⟨b, 0, none⟩ = some (.pointer (some ⟨b, 0, none⟩)) := by rw [Lib.cell_of_heap hb2]; rfl
 have d1 : w2.cell? ⟨b, 1, none⟩ = some v := by rw [Lib.cell_of_heap hb2]; rfl
 have f1 : w2.frozen? ⟨b, 1, none⟩ = false := Lib.frozen_of_heap hb2 1
 have hown'' : w2.ownsRow B 5 1 v' (bs ++ [Value.int .u8 c]).length (bs ++ [.int .u8 c]) := by simpa using hown'
 obtain ⟨g, cap, rfl⟩ : ∃ g cap, v' = .slice (some ⟨g, 0, none⟩) (bs.length + 1) cap := by
  rcases hown'.2 with ⟨_, h0⟩ | ⟨g, cap, cur, hv, _⟩
  · omega
  · exact ⟨g, cap, hv⟩
 have hput : Lib.BuilderAt 195 5 B b (.pointer (some ⟨b, 0, none⟩)) (bs ++ [.int .u8 c]) (w2.setCell ⟨b, 1, none⟩ (.slice (some ⟨g, 0, none⟩) (bs.length + 1) cap)) := Lib.BuilderAt.put (v' := .slice (some ⟨g, 0, none⟩) (bs.length + 1) cap) hB hb2 hown'' (by decide)
 have hbb := hb1.trans ((Below.refl B w1).alloc (by have := hb1.size; omega) (.cells #[.int .u8 c] 5))
 have hbb2 := hbb.grown hgrow (by simp; have := hb1.size; omega) (fun k hk => (hown.lt k hk).1)
 clear hown hgrow hown' hown'' c0 c1 hbk hb2
 go_wp2
 go_ret
 exact ⟨rfl, .inr hput, hbb2.setCell (p := ⟨b, 1, none⟩) hB _⟩
end Go.Proofs.YtjlpjpjodhkpdaaGreatDoor
namespace Go.Proofs.YtjlpjpjodhkpdaaGreatDoor
open Go.RowKit
def u8of (z : Int) : UInt8 := UInt8.ofNat (z % 256).toNat
theorem u8of_toNat (z : Int) : ((u8of z).toNat : Int) = z % 256 := by
 unfold u8of
 have h0 : 0 ≤ z % 256 := by omega
 have h1 : z % 256 < 256 := by omega
 rw [UInt8.toNat_ofNat']
 omega
def wb (x : Int) : List UInt8 := [u8of x, u8of (x / 256), u8of (x / 65536), u8of (x / 16777216)]
def toldL (h : List Int) : List UInt8 := h.flatMap wb
def toldP (h : List Int) (k n : Nat) : List UInt8 := (h.take k).flatMap wb ++ (wb (h.getD k 0)).take n
theorem toldP_word (h : List Int) (hh : h.length = 8) (k : Nat) (hk : k < 8) : toldP h k 4 = toldP h (k + 1) 0 := by
 unfold toldP
 rw [List.take_succ_eq_append_getElem (by omega : k < h.length), List.flatMap_append, List.getD_eq_getElem?_getD, List.getElem?_eq_getElem (by omega : k < h.length)]
 simp [wb]
theorem toldP_all (h : List Int) (hh : h.length = 8) : toldP h 8 0 = toldL h := by
 unfold toldP toldL
 rw [List.take_of_length_le (by omega)]
 simp
theorem toldL_length (h : List Int) : (toldL h).length = 4 * h.length := by
 unfold toldL
 induction h with
 | nil => rfl
 | cons x r ih => simp only [List.flatMap_cons, List.length_append, ih, List.length_cons]; simp [wb]; omega
theorem toldP_length (h : List Int) (k n : Nat) (hn : n ≤ 4) : (toldP h k n).length ≤ 4 * h.length + 4 := by
 unfold toldP
 have h1 := toldL_length (h.take k)
 unfold toldL at h1
 rw [List.length_append, h1, List.length_take, List.length_take]
 omega
theorem byteCells_snoc (l : List UInt8) (c : UInt8) : Lib.byteCells (l ++ [c]) = Lib.byteCells l ++ [.int .u8 c.toNat] := by simp [Lib.byteCells]
theorem byteCells_length (l : List UInt8) : (Lib.byteCells l).length = l.length := by simp [Lib.byteCells]
theorem idx8 (a0 a1 a2 a3 a4 a5 a6 a7 : Int) (k : Nat) (hk : k < 8) (w : World) :
 (Instr.index 95 (.agg #[.int .u32 a0, .int .u32 a1, .int .u32 a2, .int .u32 a3, .int .u32 a4, .int .u32 a5, .int .u32 a6, .int .u32 a7]) (.int .i64 k)).run Tryz.prog w = .ok (.int .u32 ([a0, a1, a2, a3, a4, a5, a6, a7].getD k 0)) w := by
 rcases (show k = 0 ∨ k = 1 ∨ k = 2 ∨ k = 3 ∨ k = 4 ∨ k = 5 ∨ k = 6 ∨ k = 7 by omega) with rfl | rfl | rfl | rfl | rfl | rfl | rfl | rfl <;> kernel_rfl
theorem told_any (h : List Int) (hh : h.length = 8) (w : World) :
 Calls Tryz.prog 137 #[.agg (u32s h).toArray] w fun e w' => e = .returned (.string ⟨(toldL h).toArray⟩) ∧ Below w.heap.size w w' := by
 have HH := Lib.hid hh
 obtain ⟨a0, a1, a2, a3, a4, a5, a6, a7, h8⟩ := list8 h hh
 have hidx := fun (k : Nat) (hk : k < 8) (w : World) => idx8 a0 a1 a2 a3 a4 a5 a6 a7 k hk w
 rw [← h8] at hidx
 have he : (u32s h).toArray = #[.int .u32 a0, .int .u32 a1, .int .u32 a2, .int .u32 a3, .int .u32 a4, .int .u32 a5, .int .u32 a6, .int .u32 a7] := by rw [h8]; rfl
 rw [he]
 have HI := Lib.hid hidx
 clear hh h8 he hidx
 go_enter Tryz.func137, Tryz.ntmps137
 go_wp2
 have hI : Lib.IsBuilder 195 5 (w.heap.size + 1) (w.heap.size + 1) (Lib.byteCells (toldP h 0 0)) ((w.alloc (.cells #[.int .u32 a0, .int .u32 a1, .int .u32 a2, .int .u32 a3, .int .u32 a4, .int .u32 a5, .int .u32 a6, .int .u32 a7] 95)).alloc (.cells #[.pointer none, .slice none 0 0] 195)) := by
  have := Lib.fresh_isBuilder 195 5 (w.alloc (.cells #[.int .u32 a0, .int .u32 a1, .int .u32 a2, .int .u32 a3, .int .u32 a4, .int .u32 a5, .int .u32 a6, .int .u32 a7] 95))
  rw [World.size_alloc] at this
  exact this
 have hB := ((Below.refl w.heap.size w).alloc (Nat.le_refl _) (.cells #[.int .u32 a0, .int .u32 a1, .int .u32 a2, .int .u32 a3, .int .u32 a4, .int .u32 a5, .int .u32 a6, .int .u32 a7] 95)).alloc (by simp) (.cells #[.pointer none, .slice none 0 0] 195)
 have hS : w.heap.size + 1 < ((w.alloc (.cells #[.int .u32 a0, .int .u32 a1, .int .u32 a2, .int .u32 a3, .int .u32 a4, .int .u32 a5, .int .u32 a6, .int .u32 a7] 95)).alloc (.cells #[.pointer none, .slice none 0 0] 195)).heap.size := by simp
 generalize World.alloc _ _ = W at *
 go_loopw [8] (fun c u => ∃ k : Nat, k ≤ 8 ∧ c = .int .i64 k ∧ Lib.IsBuilder 195 5 (w.heap.size + 1) (w.heap.size + 1) (Lib.byteCells (toldP h k 0)) u ∧ Below w.heap.size w u ∧ w.heap.size + 1 < u.heap.size) (fun c _ => 8 - (intOf c).toNat)
 case atStart => exact ⟨0, by omega, rfl, hI, hB, hS⟩
 case round =>
  clear hI hB hS
  obtain ⟨k, hk, rfl, hI, hB, hS⟩ := hrel
  by_cases hlt : k < 8
  · have hi := HI.out k hlt
    have dk : decide ((k : Int) < 8) = true := by simp; omega
    obtain ⟨x, hx⟩ : ∃ x, x = h.getD k 0 := ⟨_, rfl⟩
    rw [← hx] at hi
    have HX := Lib.hid hx
    clear hx
    go_wp2
    clear hi
    obtain ⟨wo, rfl⟩ : ∃ wo : World, wo = wr := ⟨_, rfl⟩
    go_loopw [11] (fun c u => ∃ n : Nat, n ≤ 4 ∧ c = .int .i64 n ∧ Lib.IsBuilder 195 5 (w.heap.size + 1) (w.heap.size + 1) (Lib.byteCells (toldP h k n)) u ∧ Below w.heap.size w u ∧ w.heap.size + 1 < u.heap.size) (fun c _ => 4 - (intOf c).toNat)
    case atStart => exact ⟨0, by omega, rfl, hI, hB, hS⟩
    case round =>
     clear hI hB hS
     obtain ⟨n, hn, rfl, hI, hB, hS⟩ := hrel
     have hl := toldP_length h k n (by omega)
     rw [HH.out] at hl
     by_cases hn4 : n < 4
     · have step : ∀ (c : Int), c = ((wb x).getD n 0).toNat → Lib.byteCells (toldP h k n) ++ [Value.int .u8 c] = Lib.byteCells (toldP h k (n + 1)) := fun c hc => by
        rw [hc, ← byteCells_snoc]
        unfold toldP
        rw [← HX.out, List.append_assoc, List.take_succ_eq_append_getElem (by simp [wb]; omega), List.getD_eq_getElem?_getD, List.getElem?_eq_getElem (by simp [wb]; omega)]
        rfl
       have ST := Lib.hid step
       clear step
       rcases (show n = 0 ∨ n = 1 ∨ n = 2 ∨ n = 3 by omega) with rfl | rfl | rfl | rfl
       all_goals
        go_wp2_with (go_at_call 148; refine (writeByte _ _ _ _ _ hI (by rw [byteCells_length]; omega) (by omega)).mono ?_)
        rintro e u ⟨rfl, hI2, hB2⟩
        rw [ST.out _ (by simp [wb, u8of_toNat])] at hI2
        have hB3 := hB.trans (hB2.mono (by omega))
        have hS3 : w.heap.size + 1 < u.heap.size := Nat.lt_of_lt_of_le hS hB2.size
        clear hI hB hB2 hS
        go_wp2
        go_roundw
        case rel => exact ⟨_, by decide, rfl, hI2, hB3, hS3⟩
        case measure => simp [intOf]
     · obtain rfl : n = 4 := by omega
       rw [toldP_word h HH.out k hlt] at hI
       go_wp2
       go_roundw
       case rel => exact ⟨k + 1, by omega, by go_num, hI, hB, hS⟩
       case measure => simp [intOf]; omega
  · obtain rfl : k = 8 := by omega
    rw [toldP_all h HH.out] at hI
    go_wp2_with (go_at_call 147; refine (Tryz.Builder_String_any _ _ _ _ hI (by omega)).mono ?_)
    rintro e u ⟨rfl, hB2⟩
    have hB3 := hB.trans (hB2.mono (by omega))
    clear hI hB hB2 hS
    go_wp2
    go_ret
    exact ⟨rfl, hB3⟩
end Go.Proofs.YtjlpjpjodhkpdaaGreatDoor
namespace Go.Proofs.YtjlpjpjodhkpdaaGreatDoor
open Go.RowKit
def padB (s : ByteArray) : ByteArray := s ++ ⟨(Lib.repeatL [0] (64 - s.size)).toArray⟩
theorem repeat0_length (n : Nat) : (Lib.repeatL [(0 : UInt8)] n).length = n := by
 rw [Lib.repeatL_length]; simp
theorem padB_size (s : ByteArray) (h : s.size ≤ 64) : (padB s).size = 64 := by
 unfold padB
 rw [ByteArray.size_append]
 show s.size + (Lib.repeatL [0] (64 - s.size)).toArray.size = 64
 rw [List.size_toArray, repeat0_length]
 omega
def feedL : Nat → List Int → ByteArray → Int → List Int
 | 0, h, _, _ => h
 | f + 1, h, s, t => if 64 < s.size then feedL f (blockL h (s.extract 0 64) (t + 64) false) (s.extract 64 s.size) (t + 64) else blockL h (padB s) (t + s.size) true
theorem all_any (h : List Int) (hh : h.length = 8) (s : ByteArray) (hs : s.size ≤ 562949953421312) (w : World) (hT : Tabs w) :
 Calls Tryz.prog 115 #[.agg (u32s h).toArray, .string s] w fun e w' => e = .returned (.string ⟨(toldL (feedL (s.size + 1) h s 0)).toArray⟩) ∧ Below w.heap.size w w' := by
 have HH := Lib.hid hh
 clear hh
 generalize hF : feedL (s.size + 1) h s 0 = F at *
 have HF := Lib.hid hF
 clear hF
 go_enter Tryz.func115, Tryz.ntmps115
 go_wp2
 have hR := RowIs.new w 95 (u32s h)
 have hB := (Below.refl w.heap.size w).alloc (Nat.le_refl _) (.cells (u32s h).toArray 95)
 generalize World.alloc _ _ = W at *
 go_loopw [1, 5] (fun x c u => ∃ (f : Nat) (g : List Int) (r : ByteArray) (t : Nat), x = .string r ∧ c = .int .u64 t ∧ r.size < f ∧ t + r.size ≤ s.size ∧ g.length = 8 ∧ Hid (feedL f g r t = F) ∧ RowIs u w.heap.size 95 (u32s g) ∧ Below w.heap.size w u) (fun x _ _ => match x with | .string r => r.size | _ => 0)
 case atStart => exact ⟨s.size + 1, h, s, 0, rfl, rfl, by omega, by omega, HH.out, HF, hR, hB⟩
 case round =>
  clear hR hB HF
  obtain ⟨f, g, r, t, rfl, rfl, hf, ht, hg, HF, hR, hB⟩ := hrel
  have HG := Lib.hid hg
  clear hg
  by_cases h64 : 64 < r.size
  · go_wp2
    have X64 := Lib.hid (show (r.extract 0 64).size = 64 by rw [ByteArray.size_extract]; omega)
    have i64 : (64 : Int) ≤ (r.size : Int) := by omega
    refine Fam.wp_region_fam [4, 8] (fun m u => RowIs u w.heap.size 95 (u32s (if m ≤ 1 then g else blockL g (r.extract 0 64) ((t : Int) + 64) false)) ∧ Below w.heap.size w u) (by kernel_rfl) (by kernel_rfl) ⟨hR, hB.drew⟩ ?_
    refine FamRow.load_ 95 (.tmp 2) _ 95 (u32s g) _ 8 rfl rfl rfl rfl Tryz.underlying95 rfl size8 (by rw [u32s_length]; exact HG.out) (fun m' hm u hu => ?_) ?_
    · have hm := Fam.inR_le hm 0 (by decide) (by kernel_rfl)
      obtain ⟨hu, _⟩ := hu
      rw [if_pos (by omega)] at hu
      exact hu
    simp only [Act.put, List.setIfInBounds_toArray, List.set_cons_zero, List.set_cons_succ]
    refine Fam.pure_ (by rfl) (by rfl) rfl (fun K hK => ?_)
    go_big_quiet_op
    refine hK _ ?_
    clear hK K
    refine Fam.any_ ?_ (by rfl) (by rfl) (fun w => ?_) ?_
    rotate_left
    · go_simp; rfl
    simp only [Act.put, List.setIfInBounds_toArray, List.set_cons_zero, List.set_cons_succ]
    refine Fam.pure_ (by rfl) (by rfl) rfl (fun K hK => ?_)
    go_big_quiet_op
    refine hK _ ?_
    clear hK K
    refine Fam.effCall_ (.tuple #[.agg (u32s (blockL g (r.extract 0 64) ((t : Int) + 64) false)).toArray, .int .i64 0]) 135 ?_ (by rfl) (by rfl) (fun w => ?_) (fun u hu => ?_) ?_
    rotate_left
    · go_simp; rfl
    · have h1 : RowIs u w.heap.size 95 (u32s g) := hu.1
      exact (block_ok g HG.out (r.extract 0 64) X64.out _ false u (hT.below hu.2 hT.size)).mono fun e u' ⟨he, hb⟩ => ⟨he, h1.below hb, hu.2.trans (hb.mono hu.2.size)⟩
    simp only [Act.put, List.setIfInBounds_toArray, List.set_cons_zero, List.set_cons_succ]
    iterate 3 (refine Fam.pure_ (by rfl) (by rfl) rfl (fun K hK => ?_); go_big_quiet_op; refine hK _ ?_; clear hK K)
    refine FamRow.store_ 95 (.tmp 2) (.tmp 17) _ 95 _ 8 rfl rfl rfl rfl rfl size8 (by rw [u32s_length, blockL_length]) (u32s_one _) (fun u hu => ?_) ?_
    · exact ⟨_, hu.1, by rw [u32s_length]; exact HG.out, hu.1.put _, below_setRow hu.2 (Nat.le_refl _) _⟩
    try simp only [Act.put, List.setIfInBounds_toArray, List.set_cons_zero, List.set_cons_succ]
    refine Fam.nil_ ?_
    rintro u ⟨hR, hB⟩
    have hR' : RowIs u w.heap.size 95 (u32s (blockL g (r.extract 0 64) ((t : Int) + 64) false)) := hR
    have hF' : Hid (feedL (f - 1) (blockL g (r.extract 0 64) (((t + 64 : Nat) : Int)) false) (r.extract 64 r.size) ((t + 64 : Nat) : Int) = F) := by
     obtain ⟨f, rfl⟩ : ∃ i, f = i + 1 := ⟨f - 1, by omega⟩
     have h2 := HF.out
     rw [feedL, if_pos h64] at h2
     exact h2
    clear hR HF
    go_wp2
    go_roundw
    case rel => exact ⟨f - 1, _, _, t + 64, rfl, by go_num, by rw [ByteArray.size_extract]; omega, by rw [ByteArray.size_extract]; omega, blockL_length _ _ _ _, hF', hR', hB⟩
    case measure => simp; omega
  · go_wp2
    have e64 : 64 - (r.size : Int) = ((64 - r.size : Nat) : Int) := by omega
    have hlen : ¬ 9223372036854775807 < r.size + (Lib.repeatL [(0 : UInt8)] (64 - r.size)).length := by rw [repeat0_length]; omega
    refine Fam.wp_region_fam [5, 8, 12] (fun m u => RowIs u w.heap.size 95 (u32s (if m ≤ 2 then g else blockL g (padB r) ((t : Int) + (r.size : Int)) true)) ∧ Below w.heap.size w u) (by kernel_rfl) (by kernel_rfl) ⟨hR, hB.drew⟩ ?_
    refine FamRow.load_ 95 (.tmp 2) _ 95 (u32s g) _ 8 rfl rfl rfl rfl Tryz.underlying95 rfl size8 (by rw [u32s_length]; exact HG.out) (fun m' hm u hu => ?_) ?_
    · have hm := Fam.inR_le hm 1 (by decide) (by kernel_rfl)
      obtain ⟨hu, _⟩ := hu
      rw [if_pos (by omega)] at hu
      exact hu
    simp only [Act.put, List.setIfInBounds_toArray, List.set_cons_zero, List.set_cons_succ]
    iterate 2 (refine Fam.pure_ (by rfl) (by rfl) rfl (fun K hK => ?_); go_big_quiet_op; refine hK _ ?_; clear hK K)
    refine Fam.any_ ?_ (by rfl) (by rfl) (fun w => ?_) ?_
    rotate_left
    · go_simp; rfl
    simp only [Act.put, List.setIfInBounds_toArray, List.set_cons_zero, List.set_cons_succ]
    refine Fam.pure_ (by rfl) (by rfl) rfl (fun K hK => ?_)
    go_big_quiet_op
    refine hK _ ?_
    clear hK K
    refine Fam.effCall_ (.string ⟨(Lib.repeatL [0] (64 - r.size)).toArray⟩) 136 ?_ (by rfl) (by rfl) (fun w => ?_) (fun u hu => ?_) ?_
    rotate_left
    · go_simp; rfl
    · have h1 : RowIs u w.heap.size 95 (u32s g) := hu.1
      exact (Tryz.strings_Repeat ⟨#[0]⟩ (64 - r.size) u (by omega) (by show 1 * _ ≤ _; omega)).mono fun e u' ⟨he, hb⟩ => ⟨he, h1.below hb, hu.2.trans (hb.mono hu.2.size)⟩
    simp only [Act.put, List.setIfInBounds_toArray, List.set_cons_zero, List.set_cons_succ]
    iterate 2 (refine Fam.pure_ (by rfl) (by rfl) rfl (fun K hK => ?_); go_big_quiet_op; refine hK _ ?_; clear hK K)
    refine Fam.effCall_ (.tuple #[.agg (u32s (blockL g (padB r) ((t : Int) + (r.size : Int)) true)).toArray, .int .i64 0]) 135 ?_ (by rfl) (by rfl) (fun w => ?_) (fun u hu => ?_) ?_
    rotate_left
    · go_simp; rfl
    · have h1 : RowIs u w.heap.size 95 (u32s g) := hu.1
      exact (block_ok g HG.out (padB r) (padB_size r (by omega)) _ true u (hT.below hu.2 hT.size)).mono fun e u' ⟨he, hb⟩ => ⟨he, hu.1.below hb, hu.2.trans (hb.mono hu.2.size)⟩
    simp only [Act.put, List.setIfInBounds_toArray, List.set_cons_zero, List.set_cons_succ]
    iterate 3 (refine Fam.pure_ (by rfl) (by rfl) rfl (fun K hK => ?_); go_big_quiet_op; refine hK _ ?_; clear hK K)
    refine FamRow.store_ 95 (.tmp 2) (.tmp 36) _ 95 _ 8 rfl rfl rfl rfl rfl size8 (by rw [u32s_length, blockL_length]) (u32s_one _) (fun u hu => ?_) ?_
    · exact ⟨_, hu.1, by rw [u32s_length]; exact HG.out, hu.1.put _, below_setRow hu.2 (Nat.le_refl _) _⟩
    try simp only [Act.put, List.setIfInBounds_toArray, List.set_cons_zero, List.set_cons_succ]
    refine Fam.nil_ ?_
    rintro u ⟨hR, hB⟩
    have hF' : Hid (blockL g (padB r) ((t : Int) + (r.size : Int)) true = F) := by
     obtain ⟨f, rfl⟩ : ∃ i, f = i + 1 := ⟨f - 1, by omega⟩
     have h2 := HF.out
     rw [feedL, if_neg h64] at h2
     exact h2
    have hR' : RowIs u w.heap.size 95 (u32s F) := by rw [← hF'.out]; exact hR
    have hL : F.length = 8 := by rw [← hF'.out]; exact blockL_length _ _ _ _
    have HL := Lib.hid hL
    clear hR HF hF' hL
    go_wp2_with (first | (refine wpList_load_row rfl 95 (.tmp 2) rfl w.heap.size rfl 95 (u32s F).toArray (0, 0) _ hR' Tryz.underlying95 rfl (by rw [size8, List.size_toArray, u32s_length, HL.out]) ?_) | (go_at_call 137; refine (told_any F HL.out _).mono ?_))
    rintro e u' ⟨rfl, hb⟩
    have hB3 := hB.trans (hb.mono hB.size)
    clear hB hb
    go_wp2
    go_ret
    exact ⟨rfl, hB3⟩
end Go.Proofs.YtjlpjpjodhkpdaaGreatDoor
namespace Go.Proofs.YtjlpjpjodhkpdaaGreatDoor
open Go.RowKit
def key0 (key : Int) : Int := xr 1779033703 (xr 16842784 (key * 256))
def startA (k : Int) : Array Value := #[.int .u32 k, .int .u32 3144134277, .int .u32 1013904242, .int .u32 2773480762, .int .u32 1359893119, .int .u32 2600822924, .int .u32 528734635, .int .u32 1541459225]
theorem startA_eq (key : Int) : (u32s (startL key)).toArray = startA (key0 key) := rfl
def sumL (s : ByteArray) : List UInt8 := toldL (feedL (s.size + 1) (startL 0) s 0)
def sumB (s : ByteArray) : ByteArray := ⟨(sumL s).toArray⟩
def keyedIn (key s : ByteArray) : ByteArray := padB key ++ s
def keyedL (key s : ByteArray) : List UInt8 := toldL (feedL ((keyedIn key s).size + 1) (startL key.size) (keyedIn key s) 0)
def keyedB (key s : ByteArray) : ByteArray := ⟨(keyedL key s).toArray⟩
theorem feedL_length : ∀ (f : Nat) (h : List Int) (s : ByteArray) (t : Int), h.length = 8 → (feedL f h s t).length = 8
 | 0, _, _, _, hh => hh
 | f + 1, h, s, t, hh => by
   unfold feedL
   split
   · exact feedL_length f _ _ _ (blockL_length _ _ _ _)
   · exact blockL_length _ _ _ _
theorem sumL_length (s : ByteArray) : (sumL s).length = 32 := by
 rw [sumL, toldL_length, feedL_length _ _ _ _ (startL_length 0)]
theorem sumB_size (s : ByteArray) : (sumB s).size = 32 := by
 show (sumL s).toArray.size = 32
 rw [List.size_toArray, sumL_length]
end Go.Proofs.YtjlpjpjodhkpdaaGreatDoor
namespace Go.Proofs.YtjlpjpjodhkpdaaGreatDoor
open Go.RowKit
theorem sum_any (s : ByteArray) (hs : s.size ≤ 562949953421312) (w : World) (hT : Tabs w) :
 Calls Tryz.prog 76 #[.string s] w fun e w' => e = .returned (.string (sumB s)) ∧ Below w.heap.size w w' := by
 have hst := start_ok 0 (by omega) (by omega) w hT
 rw [startA_eq] at hst
 have hall := fun (u : World) (hu : Tabs u) => all_any (startL 0) (startL_length 0) s hs u hu
 rw [startA_eq] at hall
 change ∀ (u : World), Tabs u → Calls _ _ _ _ (fun e w' => e = Ending.returned (Value.string (sumB s)) ∧ Below u.heap.size u w') at hall
 generalize key0 0 = k0 at *
 unfold startA at hst hall
 generalize sumB s = out at *
 have HS := Lib.hid hst; have HA := Lib.hid hall
 clear hst hall
 go_enter Tryz.func76, Tryz.ntmps76
 go_wp2_with (go_at_call 114; refine HS.out.mono ?_)
 rintro e u ⟨rfl, hb⟩
 go_wp2_with (go_at_call 115; refine (HA.out _ (hT.below (hb.alloc hb.size _) hT.size)).mono ?_)
 rintro e u' ⟨rfl, hb2⟩
 have hb3 := (hb.alloc hb.size _).trans (hb2.mono (by have := hb.size; simp; omega))
 clear hb hb2
 go_wp2
 go_ret
 exact ⟨rfl, hb3⟩
end Go.Proofs.YtjlpjpjodhkpdaaGreatDoor
