/- The document's example is shown. -/
import Derived.Test.YtjlpjpjodhkpdaaGreatDoorShE
set_option maxHeartbeats 8000000
set_option maxRecDepth 100000
set_option linter.unusedVariables false
set_option linter.unusedSimpArgs false
namespace Go.Proofs.YtjlpjpjodhkpdaaGreatDoor
open Go.RowKit Go.Proofs.YtjlpjpjodhkpdaaGreatDoor.Q Go.Proofs.YtjlpjpjodhkpdaaGreatDoorW.PrintWords
theorem ringC {W : World} {gr : Nat} (h : Pre W gr 32 (edge1 ++ edge2)) : Kd.C k32 W (some ⟨gr, 0, none⟩) ringL.length ringL := by
 refine ⟨rfl, by decide, fun _ => ⟨_, rfl, fun j p hj => ⟨[.int .i64 p.f0, .int .i64 p.f1, .int .i64 p.f2, .int .i64 p.f3, .int .i64 p.f4], rfl, k32_mk W p, fun i u hu => ?_⟩⟩⟩
 rw [add0]
 refine h.cell ?_
 rw [← hu]
 have hj2 : j < 2 := (List.getElem?_eq_some_iff.1 hj).1
 have hi5 : i < 5 := (List.getElem?_eq_some_iff.1 hu).1
 have hj' : j = 0 ∨ j = 1 := by omega
 have hi' : i = 0 ∨ i = 1 ∨ i = 2 ∨ i = 3 ∨ i = 4 := by omega
 rcases hj' with rfl | rfl <;> (obtain rfl := Option.some.inj hj; rcases hi' with rfl | rfl | rfl | rfl | rfl <;> rfl)
theorem prfsC {W : World} {gq : Nat} (h : ∀ i, i < 5 → PrfAt W gq i) : Kd.C k55 W (some ⟨gq, 0, none⟩) proofsL.length proofsL := by
 refine ⟨rfl, by decide, fun _ => ⟨_, rfl, fun j p hj => ?_⟩⟩
 have hj5 : j < 5 := (List.getElem?_eq_some_iff.1 hj).1
 have hp : p = prfD j := by
  have hj' : j = 0 ∨ j = 1 ∨ j = 2 ∨ j = 3 ∨ j = 4 := by omega
  rcases hj' with rfl | rfl | rfl | rfl | rfl <;> exact (Option.some.inj hj).symm
 subst hp
 obtain ⟨gp, cp, hcp, c0, c1, c2, c3, c4, c5, hpath⟩ := h j hj5
 have hlen := path_len (j + 3)
 have hC : Kd.string.C W (some ⟨gp, 0, none⟩) (prfD j).f2.length (prfD j).f2 := by
  refine ⟨rfl, ?_, fun _ => ⟨_, rfl, fun k s hk => ⟨[.string s], rfl, rfl, fun i u hu => ?_⟩⟩⟩
  · show (pathOf (j + 3)).length ≤ _
    rw [hlen]; decide
  · have hk3 : k < 3 := by
     have := (List.getElem?_eq_some_iff.1 hk).1
     have e : (prfD j).f2.length = 3 := hlen
     omega
    have hi0 : i = 0 := by
     have := (List.getElem?_eq_some_iff.1 hu).1
     simp at this
     omega
    subst hi0
    rw [add0]
    have := hpath k hk3
    have es : (pathOf (j + 3)).getD k ⟨#[]⟩ = s := by
     rw [List.getD_eq_getElem?_getD]
     have hk' : (pathOf (j + 3))[k]? = some s := hk
     rw [hk']; rfl
    rw [es] at this
    have eu : u = .string s := (Option.some.inj hu).symm
    rw [eu]
    show W.cell? ⟨gp, k * 1 + 0, none⟩ = _
    rw [Nat.mul_one, Nat.add_zero]
    exact this
 refine ⟨_, rfl, k55_mk W (prfD j) (A5 := some ⟨gp, 0, none⟩) (c5 := cp) (by show (pathOf (j + 3)).length ≤ cp; rw [hlen]; exact hcp) hC, fun i u hu => ?_⟩
 rw [add0]
 have hi6 : i < 6 := (List.getElem?_eq_some_iff.1 hu).1
 have hi' : i = 0 ∨ i = 1 ∨ i = 2 ∨ i = 3 ∨ i = 4 ∨ i = 5 := by omega
 have el : (prfD j).f2.length = 3 := hlen
 rcases hi' with rfl | rfl | rfl | rfl | rfl | rfl
 · obtain rfl := Option.some.inj hu
   exact c0
 · obtain rfl := Option.some.inj hu
   exact c1
 · obtain rfl := Option.some.inj hu
   exact c2
 · obtain rfl := Option.some.inj hu
   exact c3
 · obtain rfl := Option.some.inj hu
   exact c4
 · obtain rfl := Option.some.inj hu
   rw [el]
   exact c5
theorem nilC (W : World) : Kd.C (Kd.int .i64) W none ([] : List Int).length [] := ⟨rfl, by decide, fun h => absurd h (by decide)⟩
theorem check_1 (u : World) (gr cr gq cq : Nat) (hS : CeS gr gq u) (ht : Tabs u) : Calls Tryz.prog 12 #[.agg #[.string ⟨#[116]⟩, .int .i64 1, .string ⟨#[]⟩, .string rootV, .int .i64 8, .int .i64 1, .bool false, .slice none 0 0, .int .i64 0, .int .i64 0, .int .i64 0, .slice (some ⟨gr, 0, none⟩) 2 cr, .slice (some ⟨gq, 0, none⟩) 5 cq], .string rootV] u fun e w' => e = .returned (.int .i64 0) ∧ Below u.heap.size u w' :=
 (lnCheck_any ⟨#[116]⟩ 1 ⟨#[]⟩ rootV 8 1 false none 0 [] 0 0 0 (some ⟨gr, 0, none⟩) cr ringL (some ⟨gq, 0, none⟩) cq proofsL rootV true u ht (nilC u) (ringC hS.1) (prfsC hS.2) (fun h => absurd rfl h)).mono fun e w' ⟨he, hb⟩ => ⟨he.trans (congrArg (fun x => Ending.returned (.int .i64 x)) (check_certL true)), hb⟩
theorem check_2 (u : World) (gr cr gq cq : Nat) (hS : CeS gr gq u) (ht : Tabs u) : Calls Tryz.prog 12 #[.agg #[.string ⟨#[116]⟩, .int .i64 1, .string ⟨#[]⟩, .string rootV, .int .i64 8, .int .i64 1, .bool false, .slice none 0 0, .int .i64 0, .int .i64 0, .int .i64 0, .slice (some ⟨gr, 0, none⟩) 2 cr, .slice (some ⟨gq, 0, none⟩) 5 cq], .string ⟨#[120]⟩] u fun e w' => e = .returned (.int .i64 13) ∧ Below u.heap.size u w' :=
 (lnCheck_any ⟨#[116]⟩ 1 ⟨#[]⟩ rootV 8 1 false none 0 [] 0 0 0 (some ⟨gr, 0, none⟩) cr ringL (some ⟨gq, 0, none⟩) cq proofsL ⟨#[120]⟩ true u ht (nilC u) (ringC hS.1) (prfsC hS.2) (fun h => absurd rfl h)).mono fun e w' ⟨he, hb⟩ => ⟨he.trans (congrArg (fun x => Ending.returned (.int .i64 x)) (check_x true)), hb⟩
theorem shown_any (w : World) (hT : Tabs w) : Calls Tryz.prog 9 #[] w fun e w' => e = .returned (.bool true) ∧ Below w.heap.size w w' := by
 have HG := Lib.hid (show H0 w.heap.size (w.alloc (.cells h0cells.toArray 53)) from RowIs.new w 53 h0cells)
 have HB1 := Lib.hid (below_alloc (Below.refl w.heap.size w) (.cells h0cells.toArray 53))
 have HT := Lib.hid (fun u (hb : Below w.heap.size w u) => hT.below hb hT.size)
 have HM := Lib.hid (make_c w.heap.size _ HG.out)
 clear hT
 go_enter Tryz.func9, Tryz.ntmps9
 go_wp2_with (first
  | (go_at_call 31; go_loud (refine HM.out.mono ?_); rintro e w1 ⟨⟨gr, cr, gq, cq, rfl, hcr, hcq, hS⟩, hb⟩; have HB2 := Lib.hid (below_step HB1.out hb); have HS2 := Lib.hid (hS.below (below_alloc (Below.refl w1.heap.size w1) (.cells #[.string ⟨#[116]⟩, .int .i64 1, .string ⟨#[]⟩, .string rootV, .int .i64 8, .int .i64 1, .bool false, .slice none 0 0, .int .i64 0, .int .i64 0, .int .i64 0, .slice (some ⟨gr, 0, none⟩) 2 cr, .slice (some ⟨gq, 0, none⟩) 5 cq] 30))); have HX2 := Lib.hid (RowIs.new w1 30 [.string ⟨#[116]⟩, .int .i64 1, .string ⟨#[]⟩, .string rootV, .int .i64 8, .int .i64 1, .bool false, .slice none 0 0, .int .i64 0, .int .i64 0, .int .i64 0, .slice (some ⟨gr, 0, none⟩) 2 cr, .slice (some ⟨gq, 0, none⟩) 5 cq]); have HB3 := Lib.hid (below_alloc HB2.out (.cells #[.string ⟨#[116]⟩, .int .i64 1, .string ⟨#[]⟩, .string rootV, .int .i64 8, .int .i64 1, .bool false, .slice none 0 0, .int .i64 0, .int .i64 0, .int .i64 0, .slice (some ⟨gr, 0, none⟩) 2 cr, .slice (some ⟨gq, 0, none⟩) 5 cq] 30)); clear hb hS)
  | (go_at_call 12; first | (with_reducible refine (check_1 _ gr cr gq cq HS2.out (HT.out _ HB3.out)).mono ?_; rintro e w2 ⟨rfl, hb⟩; have HB4 := Lib.hid (below_step HB3.out hb); have HS4 := Lib.hid (HS2.out.below hb); have hx := HX2.out.below hb; have x0 := hx.cell (i := 0) rfl; have x1 := hx.cell (i := 1) rfl; have x2 := hx.cell (i := 2) rfl; have x3 := hx.cell (i := 3) rfl; have x4 := hx.cell (i := 4) rfl; have x5 := hx.cell (i := 5) rfl; have x6 := hx.cell (i := 6) rfl; have x7 := hx.cell (i := 7) rfl; have x8 := hx.cell (i := 8) rfl; have x9 := hx.cell (i := 9) rfl; have x10 := hx.cell (i := 10) rfl; have x11 := hx.cell (i := 11) rfl; have x12 := hx.cell (i := 12) rfl; clear hb hx) | (with_reducible refine (check_2 _ gr cr gq cq HS4.out (HT.out _ HB4.out)).mono ?_; rintro e w3 ⟨rfl, hb⟩; have HB5 := Lib.hid (below_step HB4.out hb); clear hb)))
 go_ret
 exact ⟨rfl, HB5.out⟩
end Go.Proofs.YtjlpjpjodhkpdaaGreatDoor
