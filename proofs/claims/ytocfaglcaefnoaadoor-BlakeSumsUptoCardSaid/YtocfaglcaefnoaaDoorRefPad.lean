/- cartoucheref02.pad. -/
import Derived.Test.YtocfaglcaefnoaaDoorPadRow
import Derived.Test.YtocfaglcaefnoaaDoorAll
set_option linter.unusedVariables false
set_option linter.unusedSimpArgs false
namespace Go.Proofs.YtocfaglcaefnoaaDoor
open Go.RowKit

/-- s, and k noughts. -/
def padL (s : ByteArray) (k : Nat) : List UInt8 := s.data.toList ++ List.replicate k 0
theorem padL_length (s : ByteArray) (k : Nat) : (padL s k).length = s.size + k := by
  simp [padL]
theorem padL_next (s : ByteArray) (k : Nat) : padL s k ++ [0] = padL s (k + 1) := by
  unfold padL
  rw [List.append_assoc, List.replicate_succ']
theorem padL_all (s : ByteArray) (hs : s.size ≤ 64) : (⟨(padL s (64 - s.size)).toArray⟩ : ByteArray) = padB s := by
  have hr : ∀ n, Lib.repeatL [(0 : UInt8)] n = List.replicate n 0 := by
    intro n
    induction n with
    | zero => rfl
    | succ n ih => simp [Lib.repeatL, ih, List.replicate_succ]
  unfold padL padB
  rw [hr]
  apply ByteArray.ext
  simp
theorem bytesRow_pad (s : ByteArray) (cap : Nat) : bytesRow s cap = (Lib.byteCells (s.data.toList ++ List.replicate (cap - s.data.toList.length) 0)).toArray := by
  unfold bytesRow Lib.byteCells
  apply Array.ext'
  simp

theorem wpList_append_pad {P : Program} {ops : Array Oper} {rest : List Oper} {o : Oper} {a : Act} {w : World} {Q : Exit → Act → World → Prop} (hgd : o.guard = none) (s x : Operand) (t : TypeId)
    (ho : o.op = .call { callee := .builtin .append, args := #[s, x], argTypes := #[t, t] }) (v v' : Value) (ad : Addr) (w' : World) (hs : a.eval s = v) (hx : a.eval x = .slice (some ad) 1 1)
    (hr : (Builtin.append_ #[t, t] o.type #[v, .slice (some ad) 1 1]).run P w = .ok v' w') (h : wpList P ops Q rest (a.put o.dst v') w') : wpList P ops Q (o :: rest) a w := by
  refine wpList_plain hgd fun K hK => ?_
  unfold Oper.wp execOp
  simp only [ho, resolve, invoke, builtin, Sem.run_bind, Sem.run_pure, Result.andThen_ok, List.map_toArray, List.map_cons, List.map_nil, hs, hx, hr]
  exact hK _ _ h
set_option maxHeartbeats 1000000 in
theorem pad_any (s : ByteArray) (hs : s.size ≤ 64) (w : World) :
    Calls Tryd.prog 33 #[.string s] w fun e w' => e = .returned (.string (padB s)) ∧ Below w.heap.size w w' := by
  have hcv := fun (u : World) => run_bytes_of_string (P := Tryd.prog) u 9 63 5 s Tryd.underlying9 Tryd.underlying63 Tryd.underlying5
  have hge := grownCap_ge w s.size 0 5
  have hmx : grownCap w s.size 0 5 ≤ maxLen := grownCap_le_maxLen w s.size 0 5 (by unfold maxLen; omega)
  go_enter Tryd.func33, Tryd.ntmps33
  go_wp2_with fail
  have hP : PadAt 5 (w.alloc (.cells (bytesRow s (grownCap w s.size 0 5)) 5 ((bytesRow s (grownCap w s.size 0 5)).size, (bytesRow s (grownCap w s.size 0 5)).size + 1))).drew w.heap.size (.slice (some ⟨w.heap.size, 0, none⟩) s.size (grownCap w s.size 0 5)) (padL s 0) := by
    have hsz : (bytesRow s (grownCap w s.size 0 5)).size = grownCap w s.size 0 5 := by
      unfold bytesRow
      simp
      show s.size + _ = _
      omega
    have e0 : (padL s 0).length = s.size := padL_length s 0
    rw [hsz]
    refine .inr ⟨w.heap.size, grownCap w s.size 0 5, Nat.le_refl _, by rw [e0], by rw [e0]; exact hge, hmx, ?_⟩
    rw [bytesRow_pad]
    have e1 : padL s 0 = s.data.toList := by simp [padL]
    rw [e1]
    exact heap_alloc_new w _
  have hB := ((Below.refl w.heap.size w).alloc (Nat.le_refl _) (.cells (bytesRow s (grownCap w s.size 0 5)) 5 ((bytesRow s (grownCap w s.size 0 5)).size, (bytesRow s (grownCap w s.size 0 5)).size + 1))).drew
  generalize World.drew _ = W at *
  clear hcv hge hmx
  generalize grownCap w s.size 0 5 = cap0 at *
  go_loopw [3] (fun x u => ∃ k : Nat, s.size + k ≤ 64 ∧ PadAt 5 u w.heap.size x (padL s k) ∧ Below w.heap.size w u) (fun x _ => match x with | .slice _ n _ => 64 - n | _ => 0)
  case atStart => exact ⟨0, by omega, hP, hB⟩
  case round =>
    clear hP hB
    obtain ⟨k, hk, hP, hB⟩ := hrel
    obtain ⟨p, cap, rfl⟩ := hP.slice
    rw [padL_length] at hP ⊢
    by_cases hlt : s.size + k < 64
    · obtain ⟨i0, hi, hz0, hz1, hz2⟩ := info_parts infoByte
      have dk : decide (((s.size + k : Nat) : Int) < 64) = true := by simp; omega
      go_wp2_with (at_builtin; refine Pause'.out ?_)
      have hP2 := hP.alloc (.cells #[.int .u8 0] 5)
      have hB2 := hB.alloc hB.size (.cells #[.int .u8 0] 5)
      have hcell : (wr.alloc (.cells #[.int .u8 0] 5)).cell? ⟨wr.heap.size, 0, none⟩ = some (.int .u8 0) := cell_of_row _ _ 0 _ 5 _ (heap_alloc_new wr _)
      have hown : ∀ g, (Value.slice p (s.size + k) cap).ownBlock = some g → w.heap.size ≤ g := fun g hg => hP.own hg
      generalize World.alloc _ _ = W2 at *
      generalize wr.heap.size = g0 at *
      obtain ⟨v', w', hr, hP3, hgr⟩ := pad_step (P := Tryd.prog) 63 63 i0 Tryd.underlying63 hi hz0 hz1 hz2 hP2 ⟨g0, 0, none⟩ rfl hcell (by rw [padL_length]; omega) hB2.size
      rw [padL_next] at hP3
      have hB3 := hB2.grown hgr hB2.size hown
      constructor
      refine wpList_append_pad rfl (.tmp 9) (.tmp 10) 63 rfl (.slice p (s.size + k) cap) v' ⟨g0, 0, none⟩ w' rfl rfl hr ?_
      obtain ⟨p', cap', rfl⟩ := hP3.slice
      rw [padL_length] at hP3 ⊢
      clear hP hP2 hB hB2 hcell hown hgr hr
      go_wp2
      go_roundw
      case rel => exact ⟨k + 1, by omega, hP3, hB3⟩
      case measure => first | (simp; done) | (simp; omega) | omega
    · have h64 : k = 64 - s.size := by omega
      subst h64
      have e64 : s.size + (64 - s.size) = 64 := by omega
      have hback : (convert 63 9 (.slice p 64 cap)).run Tryd.prog wr = .ok (.string (padB s)) wr := by
        rw [← padL_all s hs]
        have hl := padL_length s (64 - s.size)
        rw [e64] at hl hP
        obtain ⟨g, rfl⟩ := hP.addr (by rw [hl]; decide) (by rw [hl])
        have := run_convert_bytes_back (P := Tryd.prog) wr 63 9 5 ⟨g, 0, none⟩ cap (padL s (64 - s.size)) Tryd.underlying63 Tryd.underlying5 Tryd.underlying9 (hP.cellAt (by rw [hl]))
        rw [hl] at this
        exact this
      clear hP
      go_wp2
      go_ret
      exact ⟨rfl, hB⟩
end Go.Proofs.YtocfaglcaefnoaaDoor
