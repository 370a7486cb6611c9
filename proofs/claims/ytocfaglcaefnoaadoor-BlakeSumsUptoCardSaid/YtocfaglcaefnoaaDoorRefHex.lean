/- cartoucheref02.Hex. -/
import Derived.Test.YtocfaglcaefnoaaDoorPadRow
import Derived.Lib.BufferRead
import Derived.Test.YtocfaglcaefnoaaDoorHex
import Derived.Test.YtocfaglcaefnoaaDoorMix
import Derived.StillTailTactics
set_option linter.unusedVariables false
set_option linter.unusedSimpArgs false
namespace Go.Proofs.YtocfaglcaefnoaaDoor
open Go.RowKit

/-- Just these worlds, one behind the other. -/
def three (a b c : World) : Nat → World → Prop
  | 0, u => u = a
  | 1, u => u = b
  | _ + 2, u => u = c

theorem exec_append {P : Program} {o : Oper} {a : Act} {w w' : World} {v v2 v' : Value} (s x : Operand) (t : TypeId) (ho : o.op = .call { callee := .builtin .append, args := #[s, x], argTypes := #[t, t] })
    (hs : a.eval s = v) (hx : a.eval x = v2) (hr : (Builtin.append_ #[t, t] o.type #[v, v2]).run P w = .ok v' w') : (execOp a.eval o).run P w = .ok (.value v') w' := by
  unfold execOp
  simp only [ho, resolve, invoke, builtin, Sem.run_bind, Sem.run_pure, Result.andThen_ok, List.map_toArray, List.map_cons, List.map_nil, hs, hx, hr]
set_option maxHeartbeats 1000000 in
theorem rhex_any (s : ByteArray) (hs : s.size ≤ 70368744177664) (w : World) :
    Calls Tryd.prog 19 #[.string s] w fun e w' => e = .returned (.string (hexB s)) ∧ Below w.heap.size w w' := by
  go_enter Tryd.func19, Tryd.ntmps19
  have hO : w.ownsRow w.heap.size 5 1 (.slice none 0 0) (hexL (s.data.toList.take 0)).length (Lib.byteCells (hexL (s.data.toList.take 0))) := World.ownsRow_nil _ _ _ _
  have hB := Below.refl w.heap.size w
  obtain ⟨i0, hi, hz0, hz1, hz2⟩ := info_parts infoByte
  go_wp2_with fail
  go_loopw [3, 4] (fun x c u => ∃ k : Nat, k ≤ s.size ∧ c = .int .i64 k ∧ u.ownsRow w.heap.size 5 1 x (hexL (s.data.toList.take k)).length (Lib.byteCells (hexL (s.data.toList.take k))) ∧ Below w.heap.size w u) (fun _ c _ => s.size - (intOf c).toNat)
  case atStart => exact ⟨0, by omega, rfl, hO, hB⟩
  case round =>
    clear hO hB
    obtain ⟨k, hk, rfl, hO, hB⟩ := hrel
    by_cases hlt : k < s.size
    · have dk : decide ((k : Int) < s.size) = true := by simp; omega
      have hl := hexL_length (s.data.toList.take k)
      rw [List.length_take] at hl
      obtain ⟨c, hc⟩ : ∃ c, c = s[k] := ⟨_, rfl⟩
      have h256 : c.toNat < 256 := c.toNat_lt
      have b0 : 0 ≤ (s[k].toNat : Int) := by omega
      have b1 : 0 ≤ (s[k].toNat : Int) / 16 := by omega
      have b2 : (s[k].toNat : Int) / 16 < 16 := by rw [← hc]; omega
      have b3 : 0 ≤ (s[k].toNat : Int) % 16 := by omega
      have b4 : (s[k].toNat : Int) % 16 < 16 := by omega
      have b5 : (s[k].toNat : Int) < 256 := by rw [← hc]; omega
      have i1 : (k : Int) < (s.size : Int) := by omega
      have hn1 := dig_at (s[k].toNat / 16) (by rw [← hc]; omega)
      have hn2 := dig_at (s[k].toNat % 16) (by omega)
      have HST := Lib.hid (hexL_step s k hlt)
      have HN := Lib.hid (And.intro hn1 hn2)
      have hO1 : (wr.drew.alloc (.cells #[.int .u8 (digs.data.getD (s[k].toNat / 16) 0).toNat, .int .u8 (digs.data.getD (s[k].toNat % 16) 0).toNat] 5)).ownsRow w.heap.size 5 1 _ _ _ := (show wr.drew.ownsRow _ _ _ _ _ _ from hO).alloc _
      have hc1 : ∀ j u, ([Value.int .u8 (digs.data.getD (s[k].toNat / 16) 0).toNat, .int .u8 (digs.data.getD (s[k].toNat % 16) 0).toNat])[j]? = some u → (wr.drew.alloc (.cells #[.int .u8 (digs.data.getD (s[k].toNat / 16) 0).toNat, .int .u8 (digs.data.getD (s[k].toNat % 16) 0).toNat] 5)).cell? ((⟨wr.heap.size, 0, none⟩ : Addr).add j) = some u := by
        intro j u hj
        have hadd : (⟨wr.heap.size, 0, none⟩ : Addr).add j = ⟨wr.heap.size, j, none⟩ := by unfold Addr.add; split <;> simp_all
        rw [hadd]
        exact (cell_of_row _ _ j _ 5 _ (heap_alloc_new wr.drew _)).trans (by simpa using hj)
      obtain ⟨v', W2, hr, hO2, hgr, _⟩ := run_append_own (P := Tryd.prog) (wr.drew.alloc (.cells #[.int .u8 (digs.data.getD (s[k].toNat / 16) 0).toNat, .int .u8 (digs.data.getD (s[k].toNat % 16) 0).toNat] 5)) w.heap.size 63 63 5 i0 (.int .u8 0) 1 1 Tryd.underlying63 hi hz0 hz1 hz2 rfl (by decide) _ _ _ hO1 ⟨wr.heap.size, 0, none⟩ 2 2 [.int .u8 (digs.data.getD (s[k].toNat / 16) 0).toNat, .int .u8 (digs.data.getD (s[k].toNat % 16) 0).toNat] rfl hc1 (by intro u hu; simp at hu; rcases hu with rfl | rfl <;> rfl) (by unfold maxLen; omega) (by omega) (by have := hB.size; simp; omega)
      have hB2 := (hB.drew.alloc (w := wr.drew) hB.size (.cells #[.int .u8 (digs.data.getD (s[k].toNat / 16) 0).toNat, .int .u8 (digs.data.getD (s[k].toNat % 16) 0).toNat] 5)).grown hgr (by have := hB.size; simp; omega) (fun g hg => (hO.lt _ hg).1)
      have hO3 : W2.ownsRow w.heap.size 5 1 v' (hexL (s.data.toList.take (k + 1))).length (Lib.byteCells (hexL (s.data.toList.take (k + 1)))) := by
        rw [HST.out, List.length_append]
        have e : Lib.byteCells (hexL (s.data.toList.take k) ++ hx s[k]) = Lib.byteCells (hexL (s.data.toList.take k)) ++ [.int .u8 (digs.data.getD (s[k].toNat / 16) 0).toNat, .int .u8 (digs.data.getD (s[k].toNat % 16) 0).toNat] := by simp [Lib.byteCells, hx]
        rw [e]
        exact hO2
      have HR := Lib.hid hr
      clear hO hO1 hO2 hgr hr hB hc1 hn1 hn2 HST hl
      go_wp2_with fail
      refine Fam.wp_region_fam [11, 12] (three wr.drew (wr.drew.alloc (.cells #[.int .u8 (digs.data.getD (s[k].toNat / 16) 0).toNat, .int .u8 (digs.data.getD (s[k].toNat % 16) 0).toNat] 5)) W2) (by kernel_rfl) (by kernel_rfl) rfl ?_
      refine Fam.pure_ (by rfl) (by rfl) rfl (fun K hK => ?_)
      go_big_quiet_op
      refine hK _ ?_
      clear hK K
      refine Fam.pure_ (by rfl) (by rfl) rfl (fun K hK => ?_)
      go_big_quiet_op
      refine hK _ ?_
      clear hK K
      refine Fam.pure_ (by rfl) (by rfl) rfl (fun K hK => ?_)
      go_big_quiet_op
      refine hK _ ?_
      clear hK K
      refine Fam.pure_ (by rfl) (by rfl) rfl (fun K hK => ?_)
      go_big_quiet_op
      refine hK _ ?_
      clear hK K
      refine Fam.pure_ (by rfl) (by rfl) rfl (fun K hK => ?_)
      go_big_quiet_op
      refine hK _ ?_
      clear hK K
      refine Fam.pure_ (by rfl) (by rfl) rfl (fun K hK => ?_)
      go_big_quiet_op
      refine hK _ ?_
      clear hK K
      refine Fam.pure_ (by rfl) (by rfl) rfl (fun K hK => ?_)
      go_big_quiet_op
      refine hK _ ?_
      clear hK K
      refine Fam.pure_ (by rfl) (by rfl) rfl (fun K hK => ?_)
      go_big_quiet_op
      refine hK _ ?_
      clear hK K
      refine Fam.pure_ (by rfl) (by rfl) rfl (fun K hK => ?_)
      go_big_quiet_op
      refine hK _ ?_
      clear hK K
      refine Fam.pure_ (by rfl) (by rfl) rfl (fun K hK => ?_)
      go_big_quiet_op
      refine hK _ ?_
      clear hK K
      refine Fam.pure_ (by rfl) (by rfl) rfl (fun K hK => ?_)
      go_big_quiet_op
      refine hK _ ?_
      clear hK K
      refine Fam.eff_ ?_ (by rfl) (by rfl) (fun u hu => ?_) ?_
      rotate_left
      · have hu' : u = wr.drew := hu
        subst hu'
        refine ⟨_, ?_, rfl⟩
        clear hu
        rw [← HN.out.1, ← HN.out.2]
        go_simp
        rfl
      simp only [Act.put, List.setIfInBounds_toArray, List.set_cons_zero, List.set_cons_succ]
      refine Fam.eff_ ?_ (by rfl) (by rfl) (fun u hu => ?_) ?_
      rotate_left
      · have hu' : u = _ := hu
        subst hu'
        refine ⟨W2, ?_, rfl⟩
        clear hu
        refine Eq.trans (exec_append (.tmp 11) (.tmp 22) 63 rfl rfl rfl HR.out) ?_
        rfl
      simp only [Act.put, List.setIfInBounds_toArray, List.set_cons_zero, List.set_cons_succ]
      refine Fam.pure_ (by rfl) (by rfl) rfl (fun K hK => ?_)
      go_big_quiet_op
      refine hK _ ?_
      clear hK K
      refine Fam.nil_ ?_
      intro u hu
      have hu' : u = W2 := hu
      subst hu'
      clear hu
      go_wp2
      go_roundw
      case rel => exact ⟨k + 1, by omega, by go_num, hO3, hB2⟩
      case measure => first | (simp [intOf]; done) | (simp [intOf]; omega)
    · obtain rfl : k = s.size := by omega
      have hfull : hexL (s.data.toList.take s.size) = hexL s.data.toList := by
        rw [List.take_of_length_le (by rw [Array.length_toList]; exact Nat.le_refl _)]
      rw [hfull] at hO
      have hP : PadAt 5 wr w.heap.size _ (hexL s.data.toList) := .inl hO
      have hdk : decide ((s.size : Int) < s.size) = false := by simp
      obtain ⟨p, cap, rfl⟩ := hP.slice
      by_cases h0 : (hexL s.data.toList).length = 0
      · have hnil : hexL s.data.toList = [] := List.eq_nil_of_length_eq_zero h0
        have hback : (convert 63 9 (.slice p (hexL s.data.toList).length cap)).run Tryd.prog wr = .ok (.string (hexB s)) wr := by
          unfold hexB
          rw [hnil]
          rcases hO.2 with ⟨hv, _⟩ | ⟨g, cap', cur, hv, _, hg, _⟩
          · injection hv with h1 h2 h3
            subst h1
            exact Lib.run_convert_nil_bytes wr 63 9 5 cap Tryd.underlying63 Tryd.underlying5 Tryd.underlying9
          · injection hv with h1 h2 h3
            subst h1
            exact run_convert_bytes_back (P := Tryd.prog) wr 63 9 5 ⟨g, 0, none⟩ cap [] Tryd.underlying63 Tryd.underlying5 Tryd.underlying9 (fun j hj => by simp at hj)
        clear hP hO
        generalize (hexL s.data.toList).length = n at *
        subst h0
        go_wp2
        go_ret
        exact ⟨rfl, hB⟩
      · obtain ⟨g', rfl⟩ := hP.addr (by omega) rfl
        have hback := run_convert_bytes_back (P := Tryd.prog) wr 63 9 5 ⟨g', 0, none⟩ cap (hexL s.data.toList) Tryd.underlying63 Tryd.underlying5 Tryd.underlying9 (hP.cellAt rfl)
        clear hP hO
        generalize (hexL s.data.toList).length = n at *
        go_wp2
        go_ret
        exact ⟨rfl, hB⟩
end Go.Proofs.YtocfaglcaefnoaaDoor
