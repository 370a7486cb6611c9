/- Rows of proofs whose paths lie elsewhere. -/
import Derived.Test.YtjlpjpjodhkpdaaGreatDoorEg
import Derived.Test.YtjlpjpjodhkpdaaGreatDoorShW
set_option linter.unusedVariables false
set_option linter.unusedSimpArgs false
namespace Go.Proofs.YtjlpjpjodhkpdaaGreatDoor
open Go.RowKit Go.Proofs.YtjlpjpjodhkpdaaGreatDoor.Q Go.Proofs.YtjlpjpjodhkpdaaGreatDoorW.PrintWords
def cellsP (x : Prf) (A : Option Addr) (c : Nat) : List Value := [.int .i64 x.f0, .int .i64 x.f1.f0, .int .i64 x.f1.f1, .string x.f1.f2, .string x.f1.f3, .slice A x.f2.length c]
def PX (w : World) : List Prf → List Value → Prop
 | [], cs => cs = []
 | x :: xs, cs => ∃ A c cs', cs = cellsP x A c ++ cs' ∧ x.f2.length ≤ c ∧ Kd.string.C w A x.f2.length x.f2 ∧ PX w xs cs'
section
variable {w : World}
theorem PX.app : ∀ {xs ys : List Prf} {cs ds : List Value}, PX w xs cs → PX w ys ds → PX w (xs ++ ys) (cs ++ ds)
 | [], ys, cs, ds, h, k => by cases h; exact k
 | x :: xs, ys, cs, ds, ⟨A, c, cs', e, l, g, h⟩, k => ⟨A, c, cs' ++ ds, by rw [e, List.append_assoc], l, g, h.app k⟩
theorem PX.len : ∀ {xs : List Prf} {cs : List Value}, PX w xs cs → cs.length = xs.length * 6
 | [], cs, h => by cases h; rfl
 | x :: xs, cs, ⟨A, c, cs', e, l, g, h⟩ => by
   rw [e, List.length_append, h.len]
   simp [cellsP]
   omega
theorem PX.one : ∀ {xs : List Prf} {cs : List Value}, PX w xs cs → ∀ u ∈ cs, u.oneCell' = true
 | [], cs, h => by cases h; intro u hu; cases hu
 | x :: xs, cs, ⟨A, c, cs', e, l, g, h⟩ => by
   intro u hu
   rw [e] at hu
   rcases List.mem_append.1 hu with hu | hu
   · simp only [cellsP, List.mem_cons, List.not_mem_nil, or_false] at hu
     rcases hu with rfl | rfl | rfl | rfl | rfl | rfl <;> rfl
   · exact h.one u hu
theorem PX.get : ∀ {xs : List Prf} {cs : List Value}, PX w xs cs → ∀ j p, xs[j]? = some p → ∃ A c, (∀ i u, (cellsP p A c)[i]? = some u → cs[j * 6 + i]? = some u) ∧ p.f2.length ≤ c ∧ Kd.string.C w A p.f2.length p.f2
 | [], cs, h, j, p, hj => by simp at hj
 | x :: xs, cs, ⟨A, c, cs', e, l, g, h⟩, 0, p, hj => by
   obtain rfl : x = p := by simpa using hj
   refine ⟨A, c, fun i u hu => ?_, l, g⟩
   rw [e, Nat.zero_mul, Nat.zero_add, List.getElem?_append_left (List.getElem?_eq_some_iff.1 hu).1]
   exact hu
 | x :: xs, cs, ⟨A, c, cs', e, l, g, h⟩, j + 1, p, hj => by
   obtain ⟨A', c', h1, h2, h3⟩ := h.get j p (by simpa using hj)
   refine ⟨A', c', fun i u hu => ?_, h2, h3⟩
   have hl : (cellsP x A c).length = 6 := rfl
   rw [e, List.getElem?_append_right (by rw [hl]; omega), hl, show (j + 1) * 6 + i - 6 = j * 6 + i by omega]
   exact h1 i u hu
theorem PX.C {U : World} {xs : List Prf} {cs : List Value} {g : Nat} (h : PX w xs cs) (hcell : ∀ j u, cs[j]? = some u → U.cell? ⟨g, j, none⟩ = some u) (hb : Below w.heap.size w U) (hm : xs.length ≤ 9223372036854775807) : Kd.C k55 U (some ⟨g, 0, none⟩) xs.length xs := by
 refine ⟨rfl, hm, fun _ => ⟨_, rfl, fun j p hj => ?_⟩⟩
 obtain ⟨A, c, h1, h2, h3⟩ := h.get j p hj
 refine ⟨cellsP p A c, rfl, k55_mk U p h2 (Kd.C_below h3 hb), fun i u hu => ?_⟩
 rw [Addr.add_lit, Nat.zero_add]
 exact hcell _ _ (h1 i u hu)
theorem px_take {xs : List Prf} {ad : Addr} (h : Kd.C k55 w (some ad) xs.length xs) : ∀ k, k ≤ xs.length → ∃ cs, PX w (xs.take k) cs ∧ ∀ j u, cs[j]? = some u → w.cell? (ad.add j) = some u
 | 0, _ => ⟨[], by simp [PX], fun j u hu => by simp at hu⟩
 | k + 1, hk => by
   obtain ⟨cs, h1, h2⟩ := px_take h k (by omega)
   obtain ⟨ad', c, e, _, hK, hc0⟩ := Kd.C_get h z55 (k : Int) (by omega) (by omega)
   cases e
   simp only [Int.toNat_natCast] at hK hc0
   obtain ⟨A5, c5, rfl, l5, g5⟩ := k55_open hK
   have et : xs.take (k + 1) = xs.take k ++ [xs.getD k z55] := by
    rw [List.take_succ_eq_append_getElem (by omega), List.getD_eq_getElem?_getD, List.getElem?_eq_getElem (by omega)]
    rfl
   refine ⟨cs ++ cellsP (xs.getD k z55) A5 c5, ?_, fun j u hu => ?_⟩
   · rw [et]
     exact h1.app ⟨A5, c5, [], by rw [List.append_nil], l5, g5, rfl⟩
   · have hl := h1.len
     rw [List.length_take, Nat.min_eq_left (by omega)] at hl
     by_cases hj : j < cs.length
     · rw [List.getElem?_append_left hj] at hu
       exact h2 j u hu
     · rw [List.getElem?_append_right (by omega), hl] at hu
       have := hc0 (j - k * 6) u hu
       have e6 : k * k55.sz + (j - k * 6) = j := by show k * 6 + (j - k * 6) = j; omega
       rw [e6] at this
       exact this
theorem px_of {xs : List Prf} {ad : Addr} (h : Kd.C k55 w (some ad) xs.length xs) : ∃ cs, PX w xs cs ∧ ∀ j u, cs[j]? = some u → w.cell? (ad.add j) = some u := by
 obtain ⟨cs, h1, h2⟩ := px_take h xs.length (Nat.le_refl _)
 rw [List.take_length] at h1
 exact ⟨cs, h1, h2⟩
end
theorem app_nil_src (w : World) (g c : Nat) : (Builtin.append_ #[28, 28] 28 #[.slice (some ⟨g, 0, none⟩) 0 0, .slice none 0 c]).run Tryz.prog w = .ok (.slice (some ⟨g, 0, none⟩) 0 0) w := by
 have h1 := Tryz.underlying28
 go_simp
theorem own_empty (W : World) (t s base : Nat) (hb : base ≤ W.heap.size) : (W.alloc (.cells #[] t)).ownsRow base t s (.slice (some ⟨W.heap.size, 0, none⟩) 0 0) 0 [] :=
 ⟨by simp, .inr ⟨W.heap.size, 0, #[], rfl, hb, heap_alloc_new W _, Nat.le_refl _, by unfold maxLen; omega, by simp, by simp⟩⟩
theorem wpList_run {P : Program} {ops : Array Oper} {rest : List Oper} {o : Oper} {a : Act} {Q : Exit → Act → World → Prop} {w w' : World} {v y r : Value} (hgd : o.guard = none) (s x : Operand) (t : TypeId) (ho : o.op = .call { callee := .builtin .append, args := #[s, x], argTypes := #[t, t] }) (hs : a.eval s = v) (hx : a.eval x = y)
 (hr : (Builtin.append_ #[t, t] o.type #[v, y]).run P w = .ok r w') (h : wpList P ops Q rest (a.put o.dst r) w') : wpList P ops Q (o :: rest) a w := by
 refine wpList_plain hgd fun K hK => ?_
 unfold Oper.wp execOp
 simp only [ho, resolve, invoke, builtin, Sem.run_bind, Sem.run_pure, Result.andThen_ok, List.map_toArray, List.map_cons, List.map_nil, hs, hx, hr]
 exact hK _ _ h
theorem less_first {w W : World} {AL : Option Addr} {cL : Nat} {L : List Prf} (hL : Kd.C k55 w AL L.length L) (hl : L.length ≤ 60) (hb : Below w.heap.size w W) :
 ∃ v' w' cs, (Builtin.append_ #[28, 28] 28 #[.slice (some ⟨W.heap.size, 0, none⟩) 0 0, .slice AL L.length cL]).run Tryz.prog (W.alloc (.cells #[] 55)) = .ok v' w' ∧ PX w L cs ∧ w'.ownsRow w.heap.size 55 6 v' L.length cs ∧ (W.alloc (.cells #[] 55)).grownBy w' (some W.heap.size) := by
 obtain ⟨i0, hi0, hz0, hz1, hz2⟩ := info_parts infoProof
 cases AL with
 | none =>
   have h0 : L = [] := by
    cases L with
    | nil => rfl
    | cons x l =>
      obtain ⟨ad, e, _⟩ := hL.2.2 (by simp)
      cases e
   subst h0
   exact ⟨_, _, [], app_nil_src _ _ _, rfl, own_empty W _ _ _ hb.size, World.grownBy.refl _ _⟩
 | some ad =>
   obtain ⟨cs, h1, h2⟩ := px_of hL
   have hb2 := below_alloc hb (.cells #[] 55)
   obtain ⟨v', w', hr, h3, h4, _, _⟩ := run_append_own_at (P := Tryz.prog) (W.alloc (.cells #[] 55)) w.heap.size 28 28 55 i0 _ 6 80 Tryz.underlying28 hi0 hz0 hz1 hz2 rfl (by decide) _ 0 [] (own_empty W 55 6 w.heap.size hb.size) ad L.length cL cs h1.len (fun j u hu => pw_cell_below hb2 (h2 j u hu)) h1.one (by unfold maxLen; omega) (by omega) (by have := hb2.size; omega)
   rw [Nat.zero_add, List.nil_append] at h3
   exact ⟨v', w', cs, hr, h1, h3, h4⟩
end Go.Proofs.YtjlpjpjodhkpdaaGreatDoor
