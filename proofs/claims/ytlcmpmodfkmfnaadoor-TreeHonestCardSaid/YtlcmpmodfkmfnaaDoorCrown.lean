/- tree.crown: a row's; in the form that the print takes. -/
import Derived.Test.YtlcmpmodfkmfnaaDoorTop
set_option linter.unusedVariables false
set_option linter.unusedSimpArgs false
namespace Go.Proofs.YtlcmpmodfkmfnaaDoor
open Go.RowKit Go.Proofs.YtlcmpmodfkmfnaaDoorW.PrintWords

def tree_crown.f (l : List ByteArray) : Option ByteArray := if l.length ≤ 2305843009213693952 ∧ ∀ s ∈ l, s.size ≤ 562949953421311 then some (TM.crownL sumB l) else none
set_option maxHeartbeats 1000000 in
set_option maxRecDepth 100000 in
theorem crown_any (A0 : Option Addr) (c0 : Nat) (l : List ByteArray) (w : World) (hT : Tabs w) (hm : l.length ≤ 2305843009213693952) (hs : ∀ s ∈ l, s.size ≤ 562949953421311) (hr : Kd.C Kd.string w A0 l.length l) (hc : l.length ≤ c0) :
    Calls Tryd.prog 34 #[.slice A0 l.length c0] w fun e w' => e = .returned (.string (TM.crownL sumB l)) ∧ Below w.heap.size w w' := by
  have hB := Below.refl w.heap.size w
  by_cases h0 : l = []
  · subst h0
    clear hT hm hs hr hc
    go_enter Tryd.func34, Tryd.ntmps34
    go_wp2
    go_ret
    exact ⟨rfl, hB⟩
  · have hl : 1 ≤ l.length := by
      cases l with
      | nil => exact absurd rfl h0
      | cons a l => simp
    have hne : ((l.length : Int) == 0) = false := beq_eq_false_iff_ne.mpr (by omega)
    have hne2 : (l.length == 0) = false := beq_eq_false_iff_ne.mpr (by omega)
    have h1 : tree_top.f l = some (TM.topL sumB l) := by
      unfold tree_top.f
      rw [if_pos ⟨⟨hl, hm⟩, hs⟩]
    have HP := Lib.hid (tree_top.calls A0 c0 l _ w hT hr hc h1)
    have HS := Lib.hid (fun u (hb : Below w.heap.size w u) => sum_any (TM.topL sumB l) (top_size l hs) u (hT.below hb hT.size))
    rw [TM.crownL_ne sumB h0]
    generalize sumB (TM.topL sumB l) = out at *
    generalize TM.topL sumB l = t at *
    clear hT hs hr h1 h0
    go_enter Tryd.func34, Tryd.ntmps34
    go_wp2_with (go_at_call 59; refine Pause'.out ?_)
    constructor
    refine HP.out.mono ?_
    rintro e u ⟨rfl, hb⟩
    go_wp2_with (go_at_call 26; refine Pause'.out ?_)
    constructor
    refine (HS.out _ hb).mono ?_
    rintro e u2 ⟨rfl, hb2⟩
    have hb3 := hb.trans (hb2.mono hb.size)
    clear hb hb2 HP HS
    go_wp2
    go_ret
    exact ⟨rfl, hb3⟩
theorem tree_crown.calls (A0 : Option Addr) (c0 : Nat) (l0 : List ByteArray) (r : ByteArray) (w : World) (hT : Tabs w) (hr0 : Kd.C Kd.string w A0 l0.length l0) (hc0 : l0.length ≤ c0) (h : tree_crown.f l0 = some r) :
    Calls Tryd.prog 34 #[.slice A0 l0.length c0] w fun e w' => e = .returned (.string r) ∧ Below w.heap.size w w' := by
  unfold tree_crown.f at h
  by_cases hs : l0.length ≤ 2305843009213693952 ∧ ∀ s ∈ l0, s.size ≤ 562949953421311
  · rw [if_pos hs] at h
    obtain rfl := Option.some.inj h
    exact crown_any A0 c0 l0 w hT hs.1 hs.2 hr0 hc0
  · rw [if_neg hs] at h
    cases h
end Go.Proofs.YtlcmpmodfkmfnaaDoor
