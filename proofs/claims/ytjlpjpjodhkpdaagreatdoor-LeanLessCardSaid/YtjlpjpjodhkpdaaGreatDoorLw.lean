/- The law LeanLess, walked. -/
import Derived.Test.YtjlpjpjodhkpdaaGreatDoorLl0
set_option linter.unusedVariables false
set_option linter.unusedSimpArgs false
namespace Go.Proofs.YtjlpjpjodhkpdaaGreatDoor
open Go.RowKit Go.Proofs.YtjlpjpjodhkpdaaGreatDoor.Q Go.Proofs.YtjlpjpjodhkpdaaGreatDoorW.PrintWords

def cellsP (x : Prf) (A : Option Addr) (c : Nat) : List Value := [.int .i64 x.f0, .int .i64 x.f1.f0, .int .i64 x.f1.f1, .string x.f1.f2, .string x.f1.f3, .slice A x.f2.length c]
/-- Proofs' cells, their paths lying as they lay in w. -/
def PX (w : World) : List Prf → List Value → Prop
  | [], cs => cs = []
  | x :: xs, cs => ∃ A c cs', cs = cellsP x A c ++ cs' ∧ x.f2.length ≤ c ∧ Kd.string.C w A x.f2.length x.f2 ∧ PX w xs cs'
section
variable {w : World}
theorem PX.app : ∀ {xs ys : List Prf} {cs ds : List Value}, PX w xs cs → PX w ys ds → PX w (xs ++ ys) (cs ++ ds)
  | [], ys, cs, ds, h, k => by cases h; exact k
  | x :: xs, ys, cs, ds, ⟨A, c, cs', e, l, g, h⟩, k => ⟨A, c, cs' ++ ds, by rw [e, List.append_assoc], l, g, h.app k⟩
theorem PX.len : ∀ {xs : List Prf} {cs : List Value}, PX w xs cs → cs.length = xs.length * 6
  | [], cs, h => by cases h; rfl
  | x :: xs, cs, ⟨A, c, cs', e, l, g, h⟩ => by
    rw [e, List.length_append, h.len]
    simp [cellsP]
    omega
theorem PX.one : ∀ {xs : List Prf} {cs : List Value}, PX w xs cs → ∀ u ∈ cs, u.oneCell' = true
  | [], cs, h => by cases h; intro u hu; cases hu
  | x :: xs, cs, ⟨A, c, cs', e, l, g, h⟩ => by
    intro u hu
    rw [e] at hu
    rcases List.mem_append.1 hu with hu | hu
    · simp only [cellsP, List.mem_cons, List.not_mem_nil, or_false] at hu
      rcases hu with rfl | rfl | rfl | rfl | rfl | rfl <;> rfl
    · exact h.one u hu
theorem PX.get : ∀ {xs : List Prf} {cs : List Value}, PX w xs cs → ∀ j p, xs[j]? = some p → ∃ A c, (∀ i u, (cellsP p A c)[i]? = some u → cs[j * 6 + i]? = some u) ∧ p.f2.length ≤ c ∧ Kd.string.C w A p.f2.length p.f2
  | [], cs, h, j, p, hj => by simp at hj
  | x :: xs, cs, ⟨A, c, cs', e, l, g, h⟩, 0, p, hj => by
    obtain rfl : x = p := by simpa using hj
    refine ⟨A, c, fun i u hu => ?_, l, g⟩
    rw [e, Nat.zero_mul, Nat.zero_add, List.getElem?_append_left (List.getElem?_eq_some_iff.1 hu).1]
    exact hu
  | x :: xs, cs, ⟨A, c, cs', e, l, g, h⟩, j + 1, p, hj => by
    obtain ⟨A', c', h1, h2, h3⟩ := h.get j p (by simpa using hj)
    refine ⟨A', c', fun i u hu => ?_, h2, h3⟩
    have hl : (cellsP x A c).length = 6 := rfl
    rw [e, List.getElem?_append_right (by rw [hl]; omega), hl, show (j + 1) * 6 + i - 6 = j * 6 + i by omega]
    exact h1 i u hu
theorem PX.C {U : World} {xs : List Prf} {cs : List Value} {g : Nat} (h : PX w xs cs) (hcell : ∀ j u, cs[j]? = some u → U.cell? ⟨g, j, none⟩ = some u) (hb : Below w.heap.size w U) (hm : xs.length ≤ 9223372036854775807) : Kd.C k55 U (some ⟨g, 0, none⟩) xs.length xs := by
  refine ⟨rfl, hm, fun _ => ⟨_, rfl, fun j p hj => ?_⟩⟩
  obtain ⟨A, c, h1, h2, h3⟩ := h.get j p hj
  refine ⟨cellsP p A c, rfl, k55_mk U p h2 (Kd.C_below h3 hb), fun i u hu => ?_⟩
  rw [Addr.add_lit, Nat.zero_add]
  exact hcell _ _ (h1 i u hu)
theorem px_take {xs : List Prf} {ad : Addr} (h : Kd.C k55 w (some ad) xs.length xs) : ∀ k, k ≤ xs.length → ∃ cs, PX w (xs.take k) cs ∧ ∀ j u, cs[j]? = some u → w.cell? (ad.add j) = some u
  | 0, _ => ⟨[], by simp [PX], fun j u hu => by simp at hu⟩
  | k + 1, hk => by
    obtain ⟨cs, h1, h2⟩ := px_take h k (by omega)
    obtain ⟨ad', c, e, _, hK, hc0⟩ := Kd.C_get h z55 (k : Int) (by omega) (by omega)
    cases e
    simp only [Int.toNat_natCast] at hK hc0
    obtain ⟨A5, c5, rfl, l5, g5⟩ := k55_open hK
    have et : xs.take (k + 1) = xs.take k ++ [xs.getD k z55] := by
      rw [List.take_succ_eq_append_getElem (by omega), List.getD_eq_getElem?_getD, List.getElem?_eq_getElem (by omega)]
      rfl
    refine ⟨cs ++ cellsP (xs.getD k z55) A5 c5, ?_, fun j u hu => ?_⟩
    · rw [et]
      exact h1.app ⟨A5, c5, [], by rw [List.append_nil], l5, g5, rfl⟩
    · have hl := h1.len
      rw [List.length_take, Nat.min_eq_left (by omega)] at hl
      by_cases hj : j < cs.length
      · rw [List.getElem?_append_left hj] at hu
        exact h2 j u hu
      · rw [List.getElem?_append_right (by omega), hl] at hu
        have := hc0 (j - k * 6) u hu
        have e6 : k * k55.sz + (j - k * 6) = j := by show k * 6 + (j - k * 6) = j; omega
        rw [e6] at this
        exact this
theorem px_of {xs : List Prf} {ad : Addr} (h : Kd.C k55 w (some ad) xs.length xs) : ∃ cs, PX w xs cs ∧ ∀ j u, cs[j]? = some u → w.cell? (ad.add j) = some u := by
  obtain ⟨cs, h1, h2⟩ := px_take h xs.length (Nat.le_refl _)
  rw [List.take_length] at h1
  exact ⟨cs, h1, h2⟩
end
theorem app_nil_src (w : World) (g c : Nat) : (Builtin.append_ #[28, 28] 28 #[.slice (some ⟨g, 0, none⟩) 0 0, .slice none 0 c]).run Tryz.prog w = .ok (.slice (some ⟨g, 0, none⟩) 0 0) w := by
  have h1 := Tryz.underlying28
  go_simp
theorem own_empty (W : World) (t s base : Nat) (hb : base ≤ W.heap.size) : (W.alloc (.cells #[] t)).ownsRow base t s (.slice (some ⟨W.heap.size, 0, none⟩) 0 0) 0 [] :=
  ⟨by simp, .inr ⟨W.heap.size, 0, #[], rfl, hb, heap_alloc_new W _, Nat.le_refl _, by unfold maxLen; omega, by simp, by simp⟩⟩
theorem wpList_run {P : Program} {ops : Array Oper} {rest : List Oper} {o : Oper} {a : Act} {Q : Exit → Act → World → Prop} {w w' : World} {v y r : Value} (hgd : o.guard = none) (s x : Operand) (t : TypeId) (ho : o.op = .call { callee := .builtin .append, args := #[s, x], argTypes := #[t, t] }) (hs : a.eval s = v) (hx : a.eval x = y)
    (hr : (Builtin.append_ #[t, t] o.type #[v, y]).run P w = .ok r w') (h : wpList P ops Q rest (a.put o.dst r) w') : wpList P ops Q (o :: rest) a w := by
  refine wpList_plain hgd fun K hK => ?_
  unfold Oper.wp execOp
  simp only [ho, resolve, invoke, builtin, Sem.run_bind, Sem.run_pure, Result.andThen_ok, List.map_toArray, List.map_cons, List.map_nil, hs, hx, hr]
  exact hK _ _ h
theorem less_first {w W : World} {AL : Option Addr} {cL : Nat} {L : List Prf} (hL : Kd.C k55 w AL L.length L) (hl : L.length ≤ 60) (hb : Below w.heap.size w W) :
    ∃ v' w' cs, (Builtin.append_ #[28, 28] 28 #[.slice (some ⟨W.heap.size, 0, none⟩) 0 0, .slice AL L.length cL]).run Tryz.prog (W.alloc (.cells #[] 55)) = .ok v' w' ∧ PX w L cs ∧ w'.ownsRow w.heap.size 55 6 v' L.length cs ∧ (W.alloc (.cells #[] 55)).grownBy w' (some W.heap.size) := by
  obtain ⟨i0, hi0, hz0, hz1, hz2⟩ := info_parts infoProof
  cases AL with
  | none =>
    have h0 : L = [] := by
      cases L with
      | nil => rfl
      | cons x l =>
        obtain ⟨ad, e, _⟩ := hL.2.2 (by simp)
        cases e
    subst h0
    exact ⟨_, _, [], app_nil_src _ _ _, rfl, own_empty W _ _ _ hb.size, World.grownBy.refl _ _⟩
  | some ad =>
    obtain ⟨cs, h1, h2⟩ := px_of hL
    have hb2 := below_alloc hb (.cells #[] 55)
    obtain ⟨v', w', hr, h3, h4, _, _⟩ := run_append_own_at (P := Tryz.prog) (W.alloc (.cells #[] 55)) w.heap.size 28 28 55 i0 _ 6 80 Tryz.underlying28 hi0 hz0 hz1 hz2 rfl (by decide) _ 0 [] (own_empty W 55 6 w.heap.size hb.size) ad L.length cL cs h1.len (fun j u hu => pw_cell_below hb2 (h2 j u hu)) h1.one (by unfold maxLen; omega) (by omega) (by have := hb2.size; omega)
    rw [Nat.zero_add, List.nil_append] at h3
    exact ⟨v', w', cs, hr, h1, h3, h4⟩
/-- What lies in the midst: the proofs so far, the boxes of the bad read and of the edge. -/
def LW (w : World) (L : List Prf) (bk bi bj d0 d1 d2 d3 d4 : Int) (R : List Prf) (v : Value) (U : World) : Prop :=
  (∀ p ∈ R, p.f1.f0 = 2) ∧ (∃ cs, PX w (L ++ R) cs ∧ U.ownsRow w.heap.size 55 6 v (L ++ R).length cs) ∧ Below w.heap.size w U ∧ Pre U (w.heap.size + 1) 24 [.int .i64 bk, .int .i64 bi, .int .i64 bj] ∧ Pre U (w.heap.size + 2) 32 [.int .i64 d0, .int .i64 d1, .int .i64 d2, .int .i64 d3, .int .i64 d4]
theorem LW.C {w U : World} {L R : List Prf} {bk bi bj d0 d1 d2 d3 d4 : Int} {v : Value} (h : LW w L bk bi bj d0 d1 d2 d3 d4 R v U) (hl : (L ++ R).length ≤ 120) : ∃ A c, v = .slice A (L ++ R).length c ∧ Kd.C k55 U A (L ++ R).length (L ++ R) := by
  obtain ⟨_, ⟨cs, h1, h2⟩, h3, _⟩ := h
  obtain ⟨A, c, rfl⟩ := own_slice h2
  refine ⟨A, c, rfl, ?_⟩
  by_cases h0 : (L ++ R).length = 0
  · have e := List.eq_nil_of_length_eq_zero h0
    rw [e]
    exact ⟨rfl, by simp, fun h => absurd h (by simp)⟩
  · obtain ⟨n, hn⟩ : ∃ n, (L ++ R).length = n + 1 := ⟨(L ++ R).length - 1, by omega⟩
    rw [hn] at h2
    obtain ⟨g, c', e⟩ := ownsRow_succ h2
    injection e with e1 _ e3
    subst e1
    subst e3
    exact h1.C (fun j u hu => (Pre.of_own h2).cell hu) h3 (by omega)
set_option maxHeartbeats 8000000 in
set_option maxRecDepth 100000 in
theorem less_walk (AL : Option Addr) (cL : Nat) (L : List Prf) (AM : Option Addr) (cM : Nat) (M : List Prf) (bk bi bj d0 d1 d2 d3 d4 : Int) (w : World) (hT : Tabs w) (hL : Kd.C k55 w AL L.length L) (hM : Kd.C k55 w AM M.length M) :
    Calls Tryz.prog 6 #[.agg #[.slice AL L.length cL, .slice AM M.length cM, .int .i64 bk, .int .i64 bi, .int .i64 bj, .int .i64 d0, .int .i64 d1, .int .i64 d2, .int .i64 d3, .int .i64 d4]] w fun e w' => e = .returned (.bool true) ∧ Below w.heap.size w w' := by
  obtain ⟨i0, hi0, hz0, hz1, hz2⟩ := info_parts infoProof
  have HS := Lib.hid (fun u (hb : Below w.heap.size w u) => shown_any u (hT.below hb hT.size))
  have HB3 := Lib.hid (below_alloc (below_alloc (below_alloc (Below.refl w.heap.size w) (.cells #[.slice AL L.length cL, .slice AM M.length cM, .int .i64 bk, .int .i64 bi, .int .i64 bj, .int .i64 d0, .int .i64 d1, .int .i64 d2, .int .i64 d3, .int .i64 d4] 67)) (.cells #[.int .i64 bk, .int .i64 bi, .int .i64 bj] 24)) (.cells #[.int .i64 d0, .int .i64 d1, .int .i64 d2, .int .i64 d3, .int .i64 d4] 32))
  have hp1 := (Pre.new (w.alloc (.cells #[.slice AL L.length cL, .slice AM M.length cM, .int .i64 bk, .int .i64 bi, .int .i64 bj, .int .i64 d0, .int .i64 d1, .int .i64 d2, .int .i64 d3, .int .i64 d4] 67)) 24 [.int .i64 bk, .int .i64 bi, .int .i64 bj]).alloc (.cells #[.int .i64 d0, .int .i64 d1, .int .i64 d2, .int .i64 d3, .int .i64 d4] 32)
  have hp2 := Pre.new ((w.alloc (.cells #[.slice AL L.length cL, .slice AM M.length cM, .int .i64 bk, .int .i64 bi, .int .i64 bj, .int .i64 d0, .int .i64 d1, .int .i64 d2, .int .i64 d3, .int .i64 d4] 67)).alloc (.cells #[.int .i64 bk, .int .i64 bi, .int .i64 bj] 24)) 32 [.int .i64 d0, .int .i64 d1, .int .i64 d2, .int .i64 d3, .int .i64 d4]
  rw [World.size_alloc] at hp1
  rw [World.size_alloc, World.size_alloc] at hp2
  have HP1 := Lib.hid hp1; have HP2 := Lib.hid hp2
  clear hp1 hp2
  have HL := Lib.hid hL; have HM := Lib.hid hM
  clear hT hL hM
  by_cases g1 : (60 : Int) < (L.length : Int)
  · go_enter Tryz.func6, Tryz.ntmps6
    go_wp2_with (go_at_call 9; refine (HS.out _ HB3.out).mono ?_; rintro e w2 ⟨rfl, hb⟩; have HB4 := Lib.hid (below_step HB3.out hb); clear hb)
    go_ret
    exact ⟨rfl, HB4.out⟩
  · by_cases g2 : (60 : Int) < (M.length : Int)
    · go_enter Tryz.func6, Tryz.ntmps6
      go_wp2_with (go_at_call 9; refine (HS.out _ HB3.out).mono ?_; rintro e w2 ⟨rfl, hb⟩; have HB4 := Lib.hid (below_step HB3.out hb); clear hb)
      go_ret
      exact ⟨rfl, HB4.out⟩
    · have hl60 : L.length ≤ 60 := by omega
      have hm60 : M.length ≤ 60 := by omega
      go_enter Tryz.func6, Tryz.ntmps6
      go_wp2_with (first
        | (go_at_call 9; refine (HS.out _ HB3.out).mono ?_; rintro e w2 ⟨rfl, hb⟩; have HB4 := Lib.hid (below_step HB3.out hb); have HP3 := Lib.hid (HP1.out.below hb); have HP4 := Lib.hid (HP2.out.below hb); obtain ⟨v3, w3, cs, hr, hpx, hown, hgr⟩ := less_first (cL := cL) HL.out hl60 HB4.out; have HRN := Lib.hid hr; clear hb hr)
        | (at_builtin; refine wpList_run rfl _ _ 28 rfl rfl rfl HRN.out ?_))
      have HS0 := Lib.hid (show LW w L bk bi bj d0 d1 d2 d3 d4 [] v3 w3 from ⟨fun p hp => absurd hp (by simp), ⟨cs, by rw [List.append_nil]; exact hpx, by rw [List.append_nil]; exact hown⟩, (below_alloc HB4.out _).grown hgr (by have := HB4.out.size; simp; omega) (fun k hk => by have := HB4.out.size; have e : w2.heap.size = k := Option.some.inj hk; omega), (HP3.out.alloc _).kept hgr (fun e => by have := HP3.out.lt; have e2 := Option.some.inj e; omega), (HP4.out.alloc _).kept hgr (fun e => by have := HP4.out.lt; have e2 := Option.some.inj e; omega)⟩)
      clear hpx hown hgr HRN HP1 HP2 HP3 HP4 HB3
      go_loopw [8, 9] (fun v x U => ∃ (k : Nat) (R : List Prf), k ≤ M.length ∧ R.length ≤ k ∧ x = .int .i64 (k : Int) ∧ Hid (LW w L bk bi bj d0 d1 d2 d3 d4 R v U)) (fun _ x _ => M.length + 1 - (intOf x).toNat)
      case atStart => exact ⟨0, [], by omega, by simp, rfl, HS0⟩
      case round =>
        clear HS0
        obtain ⟨k, R, hk, hRk, rfl, HW⟩ := hrel
        by_cases hc : k < M.length
        · have hlt : decide ((k : Int) < (M.length : Int)) = true := by simp; omega
          have hlt2 : decide (k < M.length) = true := by simp; omega
          obtain ⟨ad, A5, c5, rfl, y0, y1, y2, y3, y4, y5, l5, C5⟩ := at_T55 HM.out (k : Int) (by omega) (by omega)
          simp only [Int.toNat_natCast] at y0 y1 y2 y3 y4 y5
          have hBw := HW.out.2.2.1
          replace y0 := pw_cell_below hBw y0
          replace y1 := pw_cell_below hBw y1
          replace y2 := pw_cell_below hBw y2
          replace y3 := pw_cell_below hBw y3
          replace y4 := pw_cell_below hBw y4
          replace y5 := pw_cell_below hBw y5
          clear hBw HL HM HB4 HS
          generalize rd_T55 M (k : Int) = p at *
          obtain ⟨x0, ⟨x1, x2, x3, x4⟩, x5⟩ := p
          dsimp only at *
          have HL5 := Lib.hid l5
          have HC5 := Lib.hid C5
          clear l5 C5
          by_cases h2 : x1 = 2
          · subst h2
            obtain ⟨hR, ⟨cs5, hX5, hO5⟩, hB5, hP5, hE5⟩ := HW.out
            have HO5 := Lib.hid hO5
            have HX5 := Lib.hid hX5
            have HB5 := Lib.hid hB5
            have HP5 := Lib.hid hP5
            have HE5 := Lib.hid hE5
            have HR5 := Lib.hid hR
            have hlen : (L ++ R).length ≤ 120 := by simp; omega
            clear hX5 hO5 hB5 hP5 hE5 hR HW
            go_wp2_with (at_builtin; refine wpList_append_own_at _ rfl _ _ 28 rfl w.heap.size 55 i0 _ 6 80 Tryz.underlying28 hi0 hz0 hz1 hz2 rfl (by decide) u8 (L ++ R).length cs5 rfl (HO5.out.alloc _) ⟨wr.heap.size, 0, none⟩ 1 1 (cellsP ⟨x0, ⟨2, x2, x3, x4⟩, x5⟩ A5 c5) rfl rfl (cells_new_at _ _ _ _ (by simp)) (by simp [Value.oneCell', cellsP]) (by unfold maxLen; omega) (by omega) (by have := HB5.out.size; simp; omega) ?_; intro v' w3' hown hgrow _ _; have HN := Lib.hid (show LW w L bk bi bj d0 d1 d2 d3 d4 (R ++ [⟨x0, ⟨2, x2, x3, x4⟩, x5⟩]) v' w3' from ⟨(fun p hp => by rcases List.mem_append.1 hp with h | h; exact HR5.out p h; (rw [List.mem_singleton] at h; subst h; rfl)), ⟨cs5 ++ cellsP ⟨x0, ⟨2, x2, x3, x4⟩, x5⟩ A5 c5, by rw [← List.append_assoc]; exact HX5.out.app ⟨A5, c5, [], by rw [List.append_nil], HL5.out, HC5.out, rfl⟩, by rw [← List.append_assoc, List.length_append]; exact hown⟩, below_row HB5.out HO5.out hgrow, HP5.out.kept_row HO5.out (by decide) hgrow, HE5.out.kept_row HO5.out (by decide) hgrow⟩); clear hown hgrow)
            go_roundw
            case rel => exact ⟨k + 1, R ++ [⟨x0, ⟨2, x2, x3, x4⟩, x5⟩], by omega, by simp; omega, by go_num, HN⟩
            case measure => simp [intOf]; omega
          · have h3 : decide (x1 = 2) = false := by simp [h2]
            have hne : ¬ (x1 = 2) := h2
            go_wp2
            go_roundw
            case rel => exact ⟨k + 1, R, by omega, by omega, by go_num, HW⟩
            case measure => simp [intOf]; omega
        · have hlt : decide ((k : Int) < (M.length : Int)) = false := by simp; omega
          have hlt2 : decide (k < M.length) = false := by simp; omega
          obtain ⟨hR, _, hB5, hP5, hE5⟩ := HW.out
          obtain ⟨AK, cK, rfl, hK⟩ := LW.C HW.out (by simp; omega)
          have hn : (L ++ R).length ≤ 9223372036854775806 := by simp; omega
          have HBL := Lib.hid (fun u (hb : Below wr.heap.size wr u) => lnBad_any AL cL L bk bi bj u (Kd.C_below (Kd.C_below HL.out hB5) hb) (by omega))
          have HBK := Lib.hid (fun u (hb : Below wr.heap.size wr u) => lnBad_any AK cK (L ++ R) bk bi bj u (Kd.C_below hK hb) hn)
          have HEL := Lib.hid (fun u (hb : Below wr.heap.size wr u) => lnEdge_any AL cL L d0 d1 d2 d3 d4 u (Kd.C_below (Kd.C_below HL.out hB5) hb) (by omega))
          have HEK := Lib.hid (fun u (hb : Below wr.heap.size wr u) => lnEdge_any AK cK (L ++ R) d0 d1 d2 d3 d4 u (Kd.C_below hK hb) hn)
          have HB5 := Lib.hid hB5
          have HQ := Lib.hid (Below.refl wr.heap.size wr)
          have HPx := Lib.hid hP5
          have HEx := Lib.hid hE5
          have p0 := hP5.cell (i := 0) rfl; have p1 := hP5.cell (i := 1) rfl; have p2 := hP5.cell (i := 2) rfl; have q0 := hE5.cell (i := 0) rfl; have q1 := hE5.cell (i := 1) rfl; have q2 := hE5.cell (i := 2) rfl; have q3 := hE5.cell (i := 3) rfl; have q4 := hE5.cell (i := 4) rfl
          clear hB5 hP5 hE5 HW HL HM HB4 HS hK
          generalize hkl : (L ++ R).length = kl at *
          cases hb1 : lnBad L bk bi bj <;> cases he1 : lnEdge L ⟨d0, d1, d2, d3, d4⟩
          all_goals (rw [hb1] at HBL; rw [he1] at HEL)
          all_goals (try rw [bad_more hR bk bi bj hb1] at HBK)
          all_goals (try rw [edge_more hR ⟨d0, d1, d2, d3, d4⟩ he1] at HEK)
          all_goals clear hb1 he1 hR
          all_goals go_wp2_with (first
            | (go_at_call 14; with_reducible refine (HBL.out _ HQ.out).mono ?_; rintro e w5 ⟨rfl, hb⟩; have HQ5 := Lib.hid (below_step HQ.out hb); have HPx5 := Lib.hid (HPx.out.below hb); have HEx5 := Lib.hid (HEx.out.below hb); clear HQ HPx HEx hb; have HQ := HQ5; have HPx := HPx5; have HEx := HEx5; clear HQ5 HPx5 HEx5; have p0_5 := HPx.out.cell (i := 0) rfl; have p1_5 := HPx.out.cell (i := 1) rfl; have p2_5 := HPx.out.cell (i := 2) rfl; have q0_5 := HEx.out.cell (i := 0) rfl; have q1_5 := HEx.out.cell (i := 1) rfl; have q2_5 := HEx.out.cell (i := 2) rfl; have q3_5 := HEx.out.cell (i := 3) rfl; have q4_5 := HEx.out.cell (i := 4) rfl)
            | (go_at_call 14; with_reducible refine (HBK.out _ HQ.out).mono ?_; rintro e w6 ⟨rfl, hb⟩; have HQ6 := Lib.hid (below_step HQ.out hb); have HPx6 := Lib.hid (HPx.out.below hb); have HEx6 := Lib.hid (HEx.out.below hb); clear HQ HPx HEx hb; have HQ := HQ6; have HPx := HPx6; have HEx := HEx6; clear HQ6 HPx6 HEx6; have p0_6 := HPx.out.cell (i := 0) rfl; have p1_6 := HPx.out.cell (i := 1) rfl; have p2_6 := HPx.out.cell (i := 2) rfl; have q0_6 := HEx.out.cell (i := 0) rfl; have q1_6 := HEx.out.cell (i := 1) rfl; have q2_6 := HEx.out.cell (i := 2) rfl; have q3_6 := HEx.out.cell (i := 3) rfl; have q4_6 := HEx.out.cell (i := 4) rfl)
            | (go_at_call 16; with_reducible refine (HEL.out _ HQ.out).mono ?_; rintro e w7 ⟨rfl, hb⟩; have HQ7 := Lib.hid (below_step HQ.out hb); have HPx7 := Lib.hid (HPx.out.below hb); have HEx7 := Lib.hid (HEx.out.below hb); clear HQ HPx HEx hb; have HQ := HQ7; have HPx := HPx7; have HEx := HEx7; clear HQ7 HPx7 HEx7; have p0_7 := HPx.out.cell (i := 0) rfl; have p1_7 := HPx.out.cell (i := 1) rfl; have p2_7 := HPx.out.cell (i := 2) rfl; have q0_7 := HEx.out.cell (i := 0) rfl; have q1_7 := HEx.out.cell (i := 1) rfl; have q2_7 := HEx.out.cell (i := 2) rfl; have q3_7 := HEx.out.cell (i := 3) rfl; have q4_7 := HEx.out.cell (i := 4) rfl)
            | (go_at_call 16; with_reducible refine (HEK.out _ HQ.out).mono ?_; rintro e w8 ⟨rfl, hb⟩; have HQ8 := Lib.hid (below_step HQ.out hb); have HPx8 := Lib.hid (HPx.out.below hb); have HEx8 := Lib.hid (HEx.out.below hb); clear HQ HPx HEx hb; have HQ := HQ8; have HPx := HPx8; have HEx := HEx8; clear HQ8 HPx8 HEx8; have p0_8 := HPx.out.cell (i := 0) rfl; have p1_8 := HPx.out.cell (i := 1) rfl; have p2_8 := HPx.out.cell (i := 2) rfl; have q0_8 := HEx.out.cell (i := 0) rfl; have q1_8 := HEx.out.cell (i := 1) rfl; have q2_8 := HEx.out.cell (i := 2) rfl; have q3_8 := HEx.out.cell (i := 3) rfl; have q4_8 := HEx.out.cell (i := 4) rfl))
          all_goals go_ret
          all_goals exact ⟨rfl, below_step HB5.out HQ.out⟩
namespace Q
def cartouchelaw15_LeanLess.f (_ _ : List Prf) (_ _ _ _ _ _ _ _ : Int) : Option Bool := some true
theorem cartouchelaw15_LeanLess.calls (AL : Option Addr) (cL : Nat) (L : List Prf) (AM : Option Addr) (cM : Nat) (M : List Prf) (bk bi bj d0 d1 d2 d3 d4 : Int) (r : Bool) (w : World) (hT : Tabs w) (hL : Kd.C k55 w AL L.length L) (_ : L.length ≤ cL) (hM : Kd.C k55 w AM M.length M) (_ : M.length ≤ cM) (h : cartouchelaw15_LeanLess.f L M bk bi bj d0 d1 d2 d3 d4 = some r) :
    Calls Tryz.prog 6 #[.agg #[.slice AL L.length cL, .slice AM M.length cM, .int .i64 bk, .int .i64 bi, .int .i64 bj, .int .i64 d0, .int .i64 d1, .int .i64 d2, .int .i64 d3, .int .i64 d4]] w fun e w' => e = .returned (.bool r) ∧ Below w.heap.size w w' := by
  obtain rfl : true = r := Option.some.inj h
  exact less_walk AL cL L AM cM M bk bi bj d0 d1 d2 d3 d4 w hT hL hM
end Q
theorem LeanLess_pure (L M : List Prf) (bk bi bj d0 d1 d2 d3 d4 : Int) {B0 : Prop} (_ : B0) : Q.cartouchelaw15_LeanLess.f L M bk bi bj d0 d1 d2 d3 d4 = some true := rfl
end Go.Proofs.YtjlpjpjodhkpdaaGreatDoor
