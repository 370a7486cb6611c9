/- lean.round at any certificate: is a ring one? -/
import Derived.Deep.RegionHeld3
import Derived.Deep.QuietTactic
import Derived.BigQuiet
import Derived.Test.YtjlpjpjodhkpdaaGreatDoorEg
import Derived.Test.YtjlpjpjodhkpdaaGreatDoorCmM
set_option maxHeartbeats 16000000
set_option maxRecDepth 100000
set_option linter.unusedVariables false
set_option linter.unusedSimpArgs false
namespace Go.Proofs.YtjlpjpjodhkpdaaGreatDoor
open Go.RowKit Go.Proofs.YtjlpjpjodhkpdaaGreatDoor.Q Go.Proofs.YtjlpjpjodhkpdaaGreatDoorW.PrintWords
def joinB (level : Int) (proofs : List Prf) (a b : Edg) : Bool := lnEdge proofs a && (decide (a.f2 = b.f1) && !(decide (level = 2) && (decide (a.f0 = 3) && decide (b.f0 = 3))))
def nextI (n k : Nat) : Nat := if k + 1 = n then 0 else k + 1
def ringFrom (level : Int) (proofs : List Prf) (ring : List Edg) (k : Nat) : Nat → Bool
 | 0 => true
 | d + 1 => joinB level proofs (rd_T32 ring (k : Int)) (rd_T32 ring (nextI ring.length k : Nat)) && ringFrom level proofs ring (k + 1) d
def lnRound (level : Int) (proofs : List Prf) (ring : List Edg) : Bool := ringFrom level proofs ring 0 ring.length && decide (0 < ring.length)
theorem next_mod (n k : Nat) (h : k < n) : Int.tmod ((k : Int) + 1) (n : Int) = (nextI n k : Nat) := by
 unfold nextI
 have e : ((k : Int) + 1).tmod (n : Int) = (((k + 1) % n : Nat) : Int) := by
  rw [Int.tmod_eq_emod_of_nonneg (by omega)]
  have h2 : (((k + 1) % n : Nat) : Int) = ((k + 1 : Nat) : Int) % (n : Int) := Int.natCast_emod (k + 1) n
  rw [h2]
  rfl
 rw [e]
 split
 · rename_i h1
   rw [h1, Nat.mod_self]
 · rename_i h1
   rw [Nat.mod_eq_of_lt (by omega)]
theorem next_lt (n k : Nat) (h : k < n) : nextI n k < n := by
 unfold nextI
 split <;> omega
theorem lnRound_any (tenant : ByteArray) (seq : Int) (prev root : ByteArray) (count level : Int) (accept : Bool) (A2 : Option Addr) (c2 : Nat) (order : List Int) (bk bi bj : Int) (A6 : Option Addr) (c6 : Nat) (ring : List Edg) (A7 : Option Addr) (c7 : Nat) (proofs : List Prf) (w : World) (h6 : Kd.C k32 w A6 ring.length ring) (h7 : Kd.C k55 w A7 proofs.length proofs) (hl6 : ring.length ≤ 128) (hl7 : proofs.length ≤ 256) :
 Calls Tryz.prog 37 #[.agg #[.string tenant, .int .i64 seq, .string prev, .string root, .int .i64 count, .int .i64 level, .bool accept, .slice A2 order.length c2, .int .i64 bk, .int .i64 bi, .int .i64 bj, .slice A6 ring.length c6, .slice A7 proofs.length c7]] w fun e w' => e = .returned (.bool (lnRound level proofs ring)) ∧ Below w.heap.size w w' := by
 obtain ⟨w1, hw1⟩ : ∃ w1, w1 = w.alloc (.cells #[.string tenant, .int .i64 seq, .string prev, .string root, .int .i64 count, .int .i64 level, .bool accept, .slice A2 order.length c2, .int .i64 bk, .int .i64 bi, .int .i64 bj, .slice A6 ring.length c6, .slice A7 proofs.length c7] 30) := ⟨_, rfl⟩
 have hB1 : Below w.heap.size w w1 := by rw [hw1]; exact below_alloc (Below.refl w.heap.size w) _
 have hX1 : RowIs w1 w.heap.size 30 [.string tenant, .int .i64 seq, .string prev, .string root, .int .i64 count, .int .i64 level, .bool accept, .slice A2 order.length c2, .int .i64 bk, .int .i64 bi, .int .i64 bj, .slice A6 ring.length c6, .slice A7 proofs.length c7] := by rw [hw1]; exact RowIs.new w 30 [.string tenant, .int .i64 seq, .string prev, .string root, .int .i64 count, .int .i64 level, .bool accept, .slice A2 order.length c2, .int .i64 bk, .int .i64 bi, .int .i64 bj, .slice A6 ring.length c6, .slice A7 proofs.length c7]
 have HB1 := Lib.hid hB1; have HX1 := Lib.hid hX1
 have HE := Lib.hid (fun u (hb : Below w.heap.size w u) e0 e1 e2 e3 e4 => lnEdge_any A7 c7 proofs e0 e1 e2 e3 e4 u (Kd.C_below h7 hb) (by omega))
 have H6 := Lib.hid (fun u (hb : Below w.heap.size w u) => Kd.C_below h6 hb)
 have x11 := hX1.cell (i := 11) rfl
 obtain ⟨r, hr0⟩ : ∃ r, r = lnRound level proofs ring := ⟨_, rfl⟩
 rw [← hr0]
 unfold lnRound at hr0
 have HR := Lib.hid hr0
 clear h6 h7 hr0 hB1 hX1
 go_enter Tryz.func37, Tryz.ntmps37
 go_wp2
 rw [← hw1]
 go_loopw [12] (fun x u => ∃ k : Nat, k ≤ ring.length ∧ x = .int .i64 (k : Int) ∧ Hid (ringFrom level proofs ring 0 ring.length = ringFrom level proofs ring k (ring.length - k)) ∧ Below w1.heap.size w1 u) (fun x _ => ring.length + 1 - (intOf x).toNat)
 case atStart => exact ⟨0, by omega, rfl, Lib.hid rfl, Below.refl _ _⟩
 case round =>
  clear x11
  obtain ⟨k, hk, rfl, HL, hB⟩ := hrel
  by_cases hc : k < ring.length
  · obtain ⟨ad, rfl, y0, y1, y2, y3, y4⟩ := at_T32 (H6.out wr (below_step HB1.out hB)) (k : Int) (by omega) (by omega)
    have hj := next_lt ring.length k hc
    obtain ⟨ad', hae, z0, z1, z2, z3, z4⟩ := at_T32 (H6.out wr (below_step HB1.out hB)) (nextI ring.length k : Nat) (by omega) (by omega)
    cases hae
    simp only [Int.toNat_natCast] at y0 y1 y2 y3 y4 z0 z1 z2 z3 z4
    have hlt : decide ((k : Int) < (ring.length : Int)) = true := by simp; omega
    have hlt2 : decide (k < ring.length) = true := by simp; omega
    have nm := next_mod ring.length k hc
    have hd := HL.out
    rw [show ring.length - k = (ring.length - (k + 1)) + 1 by omega, ringFrom] at hd
    generalize nextI ring.length k = j at *
    have HD := Lib.hid hd
    clear hd
    have HBr := Lib.hid hB
    clear hB
    have nz : ((ring.length : Int) == 0) = false := beq_eq_false_iff_ne.mpr (by omega)
    have nj : (j : Int) < (ring.length : Int) := by omega
    have hjt : decide ((j : Int) < (ring.length : Int)) = true := by simp; omega
    have hjt2 : decide (j < ring.length) = true := by simp; omega
    generalize rd_T32 ring (k : Int) = ea at *
    generalize rd_T32 ring (j : Int) = eb at *
    obtain ⟨a0, a1, a2, a3, a4⟩ := ea
    obtain ⟨b0, b1, b2, b3, b4⟩ := eb
    dsimp only at *
    have n0 := World.new_ne wr _ y0
    have hnil : ring ≠ [] := fun e => by rw [e] at hc; simp at hc
    have hlz : (ring.length : Int) ≠ 0 := by omega
    have ew : IntKind.i64.wrap ((k : Int) + 1) = (k : Int) + 1 := by rw [IntKind.wrap_i64]; omega
    have nw : Int.tmod (IntKind.i64.wrap ((k : Int) + 1)) (ring.length : Int) = (j : Int) := by rw [ew, nm]
    have hba := World.block_lt_of_cell? wr _ y0
    go_wp2
    go_region_held3 (fun w' => w'.cell? (ad.add (k * 5)) = some (.int .i64 a0) ∧ w'.cell? ⟨(ad.add (k * 5)).block, (ad.add (k * 5)).off + 1, none⟩ = some (.int .i64 a1) ∧ w'.cell? ⟨(ad.add (k * 5)).block, (ad.add (k * 5)).off + 2, none⟩ = some (.int .i64 a2) ∧ w'.cell? ⟨(ad.add (k * 5)).block, (ad.add (k * 5)).off + 3, none⟩ = some (.int .i64 a3) ∧ w'.cell? ⟨(ad.add (k * 5)).block, (ad.add (k * 5)).off + 4, none⟩ = some (.int .i64 a4) ∧ w'.cell? (ad.add (j * 5)) = some (.int .i64 b0) ∧ w'.cell? ⟨(ad.add (j * 5)).block, (ad.add (j * 5)).off + 1, none⟩ = some (.int .i64 b1) ∧ w'.cell? ⟨(ad.add (j * 5)).block, (ad.add (j * 5)).off + 2, none⟩ = some (.int .i64 b2) ∧ w'.cell? ⟨(ad.add (j * 5)).block, (ad.add (j * 5)).off + 3, none⟩ = some (.int .i64 b3) ∧ w'.cell? ⟨(ad.add (j * 5)).block, (ad.add (j * 5)).off + 4, none⟩ = some (.int .i64 b4))
     (go_keep)
     (fail)
    · rename_i hHeld0
      clear hHeld0 nz nm nj hjt hjt2 hnil hlz ew nw
      obtain ⟨w5, hw5⟩ : ∃ w5, w5 = ((wr.alloc (.cells #[.int .i64 a0, .int .i64 a1, .int .i64 a2, .int .i64 a3, .int .i64 a4] 32)).alloc (.cells #[.int .i64 b0, .int .i64 b1, .int .i64 b2, .int .i64 b3, .int .i64 b4] 32)).drew := ⟨_, rfl⟩
      have hb5 : Below wr.heap.size wr w5 := by rw [hw5]; exact below_drew1 (below_alloc (below_alloc (Below.refl _ _) _) _)
      have hf := RowIs.new wr 32 [.int .i64 a0, .int .i64 a1, .int .i64 a2, .int .i64 a3, .int .i64 a4]
      have hg := RowIs.new (wr.alloc (.cells #[.int .i64 a0, .int .i64 a1, .int .i64 a2, .int .i64 a3, .int .i64 a4] 32)) 32 [.int .i64 b0, .int .i64 b1, .int .i64 b2, .int .i64 b3, .int .i64 b4]
      rw [World.size_alloc] at hg
      have hra : RowIs w5 wr.heap.size 32 [.int .i64 a0, .int .i64 a1, .int .i64 a2, .int .i64 a3, .int .i64 a4] := by rw [hw5]; exact hf.alloc _
      have hrb : RowIs w5 (wr.heap.size + 1) 32 [.int .i64 b0, .int .i64 b1, .int .i64 b2, .int .i64 b3, .int .i64 b4] := by rw [hw5]; exact hg
      rw [← hw5]
      have HRA := Lib.hid hra; have HRB := Lib.hid hrb; have HB5 := Lib.hid (below_step HBr.out hb5); have HXX := Lib.hid ((HX1.out.below HBr.out).below hb5)
      have xp := HXX.out.cell (i := 12) rfl
      have ca0 := HRA.out.cell (i := 0) rfl; have ca1 := HRA.out.cell (i := 1) rfl; have ca2 := HRA.out.cell (i := 2) rfl; have ca3 := HRA.out.cell (i := 3) rfl; have ca4 := HRA.out.cell (i := 4) rfl
      clear hf hg hra hrb hb5 hw5
      clear y0 y1 y2 y3 y4 z0 z1 z2 z3 z4
      obtain ⟨be, hbe⟩ : ∃ be, lnEdge proofs ⟨a0, a1, a2, a3, a4⟩ = be := ⟨_, rfl⟩
      have HEa := Lib.hid (fun u hb => HE.out u hb a0 a1 a2 a3 a4)
      simp only [hbe] at HEa
      have HBE := Lib.hid hbe
      clear HE hbe
      cases be
      · have hh : ringFrom level proofs ring 0 ring.length = false := HD.out.trans (by simp [joinB, HBE.out])
        obtain rfl : r = false := HR.out.trans (by rw [hh]; rfl)
        go_wp2_with (go_at_call 16; refine (HEa.out _ (below_step HB1.out HB5.out)).mono ?_; rintro e w6 ⟨rfl, hb⟩; have HB6 := Lib.hid (below_step HB5.out hb); have ha := HRA.out.below hb; have hbb := HRB.out.below hb; have hx := HXX.out.below hb; have u0 := ha.cell (i := 0) rfl; have u2 := ha.cell (i := 2) rfl; have v0 := hbb.cell (i := 0) rfl; have v1 := hbb.cell (i := 1) rfl; have l5 := hx.cell (i := 5) rfl; clear hb ha hbb hx)
        go_ret
        exact ⟨by first | rfl | (simp; done) | (simp [*]; done), below_step HB1.out HB6.out⟩
      · by_cases g1 : a2 = b1
        · subst g1
          by_cases g2 : level = 2
          · by_cases g3 : a0 = 3
            · by_cases g4 : b0 = 3
              · have hh : ringFrom level proofs ring 0 ring.length = false := HD.out.trans (by simp [joinB, HBE.out, g2, g3, g4])
                obtain rfl : r = false := HR.out.trans (by rw [hh]; rfl)
                subst g2 g3 g4
                go_wp2_with (go_at_call 16; refine (HEa.out _ (below_step HB1.out HB5.out)).mono ?_; rintro e w6 ⟨rfl, hb⟩; have HB6 := Lib.hid (below_step HB5.out hb); have ha := HRA.out.below hb; have hbb := HRB.out.below hb; have hx := HXX.out.below hb; have u0 := ha.cell (i := 0) rfl; have u2 := ha.cell (i := 2) rfl; have v0 := hbb.cell (i := 0) rfl; have v1 := hbb.cell (i := 1) rfl; have l5 := hx.cell (i := 5) rfl; clear hb ha hbb hx)
                go_ret
                exact ⟨by first | rfl | (simp; done) | (simp [*]; done), below_step HB1.out HB6.out⟩
              · have hh : ringFrom level proofs ring 0 ring.length = ringFrom level proofs ring (k + 1) (ring.length - (k + 1)) := HD.out.trans (by simp [joinB, HBE.out, g4])
                have HH := Lib.hid hh
                clear hh HD
                subst g2 g3
                go_wp2_with (go_at_call 16; refine (HEa.out _ (below_step HB1.out HB5.out)).mono ?_; rintro e w6 ⟨rfl, hb⟩; have HB6 := Lib.hid (below_step HB5.out hb); have ha := HRA.out.below hb; have hbb := HRB.out.below hb; have hx := HXX.out.below hb; have u0 := ha.cell (i := 0) rfl; have u2 := ha.cell (i := 2) rfl; have v0 := hbb.cell (i := 0) rfl; have v1 := hbb.cell (i := 1) rfl; have l5 := hx.cell (i := 5) rfl; clear hb ha hbb hx)
                go_roundw
                case rel => exact ⟨k + 1, by omega, by go_num, HH, HB6.out⟩
                case measure => simp [intOf]; omega
            · have hh : ringFrom level proofs ring 0 ring.length = ringFrom level proofs ring (k + 1) (ring.length - (k + 1)) := HD.out.trans (by simp [joinB, HBE.out, g3])
              have HH := Lib.hid hh
              clear hh HD
              subst g2
              go_wp2_with (go_at_call 16; refine (HEa.out _ (below_step HB1.out HB5.out)).mono ?_; rintro e w6 ⟨rfl, hb⟩; have HB6 := Lib.hid (below_step HB5.out hb); have ha := HRA.out.below hb; have hbb := HRB.out.below hb; have hx := HXX.out.below hb; have u0 := ha.cell (i := 0) rfl; have u2 := ha.cell (i := 2) rfl; have v0 := hbb.cell (i := 0) rfl; have v1 := hbb.cell (i := 1) rfl; have l5 := hx.cell (i := 5) rfl; clear hb ha hbb hx)
              go_roundw
              case rel => exact ⟨k + 1, by omega, by go_num, HH, HB6.out⟩
              case measure => simp [intOf]; omega
          · have hh : ringFrom level proofs ring 0 ring.length = ringFrom level proofs ring (k + 1) (ring.length - (k + 1)) := HD.out.trans (by simp [joinB, HBE.out, g2])
            have HH := Lib.hid hh
            clear hh HD
            go_wp2_with (go_at_call 16; refine (HEa.out _ (below_step HB1.out HB5.out)).mono ?_; rintro e w6 ⟨rfl, hb⟩; have HB6 := Lib.hid (below_step HB5.out hb); have ha := HRA.out.below hb; have hbb := HRB.out.below hb; have hx := HXX.out.below hb; have u0 := ha.cell (i := 0) rfl; have u2 := ha.cell (i := 2) rfl; have v0 := hbb.cell (i := 0) rfl; have v1 := hbb.cell (i := 1) rfl; have l5 := hx.cell (i := 5) rfl; clear hb ha hbb hx)
            go_roundw
            case rel => exact ⟨k + 1, by omega, by go_num, HH, HB6.out⟩
            case measure => simp [intOf]; omega
        · have hh : ringFrom level proofs ring 0 ring.length = false := HD.out.trans (by simp [joinB, HBE.out, g1])
          obtain rfl : r = false := HR.out.trans (by rw [hh]; rfl)
          go_wp2_with (go_at_call 16; refine (HEa.out _ (below_step HB1.out HB5.out)).mono ?_; rintro e w6 ⟨rfl, hb⟩; have HB6 := Lib.hid (below_step HB5.out hb); have ha := HRA.out.below hb; have hbb := HRB.out.below hb; have hx := HXX.out.below hb; have u0 := ha.cell (i := 0) rfl; have u2 := ha.cell (i := 2) rfl; have v0 := hbb.cell (i := 0) rfl; have v1 := hbb.cell (i := 1) rfl; have l5 := hx.cell (i := 5) rfl; clear hb ha hbb hx)
          go_ret
          exact ⟨by first | rfl | (simp; done) | (simp [*]; done), below_step HB1.out HB6.out⟩
    · rename_i hHeld0
      clear hHeld0 nz nm nj hjt hjt2 hnil hlz ew nw
      obtain ⟨w5, hw5⟩ : ∃ w5, w5 = ((wr.alloc (.cells #[.int .i64 b0, .int .i64 b1, .int .i64 b2, .int .i64 b3, .int .i64 b4] 32)).alloc (.cells #[.int .i64 a0, .int .i64 a1, .int .i64 a2, .int .i64 a3, .int .i64 a4] 32)).drew := ⟨_, rfl⟩
      have hb5 : Below wr.heap.size wr w5 := by rw [hw5]; exact below_drew1 (below_alloc (below_alloc (Below.refl _ _) _) _)
      have hf := RowIs.new wr 32 [.int .i64 b0, .int .i64 b1, .int .i64 b2, .int .i64 b3, .int .i64 b4]
      have hg := RowIs.new (wr.alloc (.cells #[.int .i64 b0, .int .i64 b1, .int .i64 b2, .int .i64 b3, .int .i64 b4] 32)) 32 [.int .i64 a0, .int .i64 a1, .int .i64 a2, .int .i64 a3, .int .i64 a4]
      rw [World.size_alloc] at hg
      have hra : RowIs w5 (wr.heap.size + 1) 32 [.int .i64 a0, .int .i64 a1, .int .i64 a2, .int .i64 a3, .int .i64 a4] := by rw [hw5]; exact hg
      have hrb : RowIs w5 wr.heap.size 32 [.int .i64 b0, .int .i64 b1, .int .i64 b2, .int .i64 b3, .int .i64 b4] := by rw [hw5]; exact hf.alloc _
      rw [← hw5]
      have HRA := Lib.hid hra; have HRB := Lib.hid hrb; have HB5 := Lib.hid (below_step HBr.out hb5); have HXX := Lib.hid ((HX1.out.below HBr.out).below hb5)
      have xp := HXX.out.cell (i := 12) rfl
      have ca0 := HRA.out.cell (i := 0) rfl; have ca1 := HRA.out.cell (i := 1) rfl; have ca2 := HRA.out.cell (i := 2) rfl; have ca3 := HRA.out.cell (i := 3) rfl; have ca4 := HRA.out.cell (i := 4) rfl
      clear hf hg hra hrb hb5 hw5
      clear y0 y1 y2 y3 y4 z0 z1 z2 z3 z4
      obtain ⟨be, hbe⟩ : ∃ be, lnEdge proofs ⟨a0, a1, a2, a3, a4⟩ = be := ⟨_, rfl⟩
      have HEa := Lib.hid (fun u hb => HE.out u hb a0 a1 a2 a3 a4)
      simp only [hbe] at HEa
      have HBE := Lib.hid hbe
      clear HE hbe
      cases be
      · have hh : ringFrom level proofs ring 0 ring.length = false := HD.out.trans (by simp [joinB, HBE.out])
        obtain rfl : r = false := HR.out.trans (by rw [hh]; rfl)
        go_wp2_with (go_at_call 16; refine (HEa.out _ (below_step HB1.out HB5.out)).mono ?_; rintro e w6 ⟨rfl, hb⟩; have HB6 := Lib.hid (below_step HB5.out hb); have ha := HRA.out.below hb; have hbb := HRB.out.below hb; have hx := HXX.out.below hb; have u0 := ha.cell (i := 0) rfl; have u2 := ha.cell (i := 2) rfl; have v0 := hbb.cell (i := 0) rfl; have v1 := hbb.cell (i := 1) rfl; have l5 := hx.cell (i := 5) rfl; clear hb ha hbb hx)
        go_ret
        exact ⟨by first | rfl | (simp; done) | (simp [*]; done), below_step HB1.out HB6.out⟩
      · by_cases g1 : a2 = b1
        · subst g1
          by_cases g2 : level = 2
          · by_cases g3 : a0 = 3
            · by_cases g4 : b0 = 3
              · have hh : ringFrom level proofs ring 0 ring.length = false := HD.out.trans (by simp [joinB, HBE.out, g2, g3, g4])
                obtain rfl : r = false := HR.out.trans (by rw [hh]; rfl)
                subst g2 g3 g4
                go_wp2_with (go_at_call 16; refine (HEa.out _ (below_step HB1.out HB5.out)).mono ?_; rintro e w6 ⟨rfl, hb⟩; have HB6 := Lib.hid (below_step HB5.out hb); have ha := HRA.out.below hb; have hbb := HRB.out.below hb; have hx := HXX.out.below hb; have u0 := ha.cell (i := 0) rfl; have u2 := ha.cell (i := 2) rfl; have v0 := hbb.cell (i := 0) rfl; have v1 := hbb.cell (i := 1) rfl; have l5 := hx.cell (i := 5) rfl; clear hb ha hbb hx)
                go_ret
                exact ⟨by first | rfl | (simp; done) | (simp [*]; done), below_step HB1.out HB6.out⟩
              · have hh : ringFrom level proofs ring 0 ring.length = ringFrom level proofs ring (k + 1) (ring.length - (k + 1)) := HD.out.trans (by simp [joinB, HBE.out, g4])
                have HH := Lib.hid hh
                clear hh HD
                subst g2 g3
                go_wp2_with (go_at_call 16; refine (HEa.out _ (below_step HB1.out HB5.out)).mono ?_; rintro e w6 ⟨rfl, hb⟩; have HB6 := Lib.hid (below_step HB5.out hb); have ha := HRA.out.below hb; have hbb := HRB.out.below hb; have hx := HXX.out.below hb; have u0 := ha.cell (i := 0) rfl; have u2 := ha.cell (i := 2) rfl; have v0 := hbb.cell (i := 0) rfl; have v1 := hbb.cell (i := 1) rfl; have l5 := hx.cell (i := 5) rfl; clear hb ha hbb hx)
                go_roundw
                case rel => exact ⟨k + 1, by omega, by go_num, HH, HB6.out⟩
                case measure => simp [intOf]; omega
            · have hh : ringFrom level proofs ring 0 ring.length = ringFrom level proofs ring (k + 1) (ring.length - (k + 1)) := HD.out.trans (by simp [joinB, HBE.out, g3])
              have HH := Lib.hid hh
              clear hh HD
              subst g2
              go_wp2_with (go_at_call 16; refine (HEa.out _ (below_step HB1.out HB5.out)).mono ?_; rintro e w6 ⟨rfl, hb⟩; have HB6 := Lib.hid (below_step HB5.out hb); have ha := HRA.out.below hb; have hbb := HRB.out.below hb; have hx := HXX.out.below hb; have u0 := ha.cell (i := 0) rfl; have u2 := ha.cell (i := 2) rfl; have v0 := hbb.cell (i := 0) rfl; have v1 := hbb.cell (i := 1) rfl; have l5 := hx.cell (i := 5) rfl; clear hb ha hbb hx)
              go_roundw
              case rel => exact ⟨k + 1, by omega, by go_num, HH, HB6.out⟩
              case measure => simp [intOf]; omega
          · have hh : ringFrom level proofs ring 0 ring.length = ringFrom level proofs ring (k + 1) (ring.length - (k + 1)) := HD.out.trans (by simp [joinB, HBE.out, g2])
            have HH := Lib.hid hh
            clear hh HD
            go_wp2_with (go_at_call 16; refine (HEa.out _ (below_step HB1.out HB5.out)).mono ?_; rintro e w6 ⟨rfl, hb⟩; have HB6 := Lib.hid (below_step HB5.out hb); have ha := HRA.out.below hb; have hbb := HRB.out.below hb; have hx := HXX.out.below hb; have u0 := ha.cell (i := 0) rfl; have u2 := ha.cell (i := 2) rfl; have v0 := hbb.cell (i := 0) rfl; have v1 := hbb.cell (i := 1) rfl; have l5 := hx.cell (i := 5) rfl; clear hb ha hbb hx)
            go_roundw
            case rel => exact ⟨k + 1, by omega, by go_num, HH, HB6.out⟩
            case measure => simp [intOf]; omega
        · have hh : ringFrom level proofs ring 0 ring.length = false := HD.out.trans (by simp [joinB, HBE.out, g1])
          obtain rfl : r = false := HR.out.trans (by rw [hh]; rfl)
          go_wp2_with (go_at_call 16; refine (HEa.out _ (below_step HB1.out HB5.out)).mono ?_; rintro e w6 ⟨rfl, hb⟩; have HB6 := Lib.hid (below_step HB5.out hb); have ha := HRA.out.below hb; have hbb := HRB.out.below hb; have hx := HXX.out.below hb; have u0 := ha.cell (i := 0) rfl; have u2 := ha.cell (i := 2) rfl; have v0 := hbb.cell (i := 0) rfl; have v1 := hbb.cell (i := 1) rfl; have l5 := hx.cell (i := 5) rfl; clear hb ha hbb hx)
          go_ret
          exact ⟨by first | rfl | (simp; done) | (simp [*]; done), below_step HB1.out HB6.out⟩
  · have e : k = ring.length := by omega
    have hlt : decide ((k : Int) < (ring.length : Int)) = false := by simp; omega
    have hlt2 : decide (k < ring.length) = false := by simp; omega
    have hh : ringFrom level proofs ring 0 ring.length = true := HL.out.trans (by rw [e, Nat.sub_self]; rfl)
    have hrr : r = decide (0 < ring.length) := HR.out.trans (by rw [hh]; simp)
    go_wp2
    go_ret
    exact ⟨by rw [hrr]; first | rfl | (simp; done), below_step HB1.out hB⟩
end Go.Proofs.YtjlpjpjodhkpdaaGreatDoor
