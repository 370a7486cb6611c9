/- TREES, IN PLAIN LEAN: climbs, what is given away: what the printed functions come to. -/
import Derived.Test.YtlcmpmodfkmfnaaDoorTreeP
set_option linter.unusedVariables false
set_option linter.unusedSimpArgs false
namespace Go.Proofs.YtlcmpmodfkmfnaaDoor
open Go.RowKit Go.Proofs.YtlcmpmodfkmfnaaDoor.Q Go.Proofs.YtlcmpmodfkmfnaaDoorW.PrintWords

/-! ### Inputs -/
theorem rleaf_f (s : ByteArray) (hs : s.size ≤ 562949953421311) : cartoucheref03_LeafIn.f s = some (TM.leafB s) := by
  unfold cartoucheref03_LeafIn.f TM.leafB
  rw [if_pos (by omega)]
theorem leaf_f (s : ByteArray) (hs : s.size ≤ 562949953421311) : tree_leaf.f s = some (TM.leafB s) := by
  unfold tree_leaf.f TM.leafB
  rw [if_pos (by omega)]
theorem one_size (x : UInt8) (a : ByteArray) : ((⟨#[x]⟩ : ByteArray) ++ a).size = 1 + a.size := by rw [ByteArray.size_append]; rfl
theorem rnode_f (a b : ByteArray) (hs : a.size + b.size ≤ 562949953421311) : cartoucheref03_NodeIn.f a b = some (TM.nodeB a b) := by
  unfold cartoucheref03_NodeIn.f TM.nodeB
  have := one_size 1 a
  rw [if_pos (by omega), if_pos (by omega)]
theorem node_f (a b : ByteArray) (hs : a.size + b.size ≤ 562949953421311) : tree_node.f a b = some (TM.nodeB a b) := by
  unfold tree_node.f TM.nodeB
  have := one_size 1 a
  rw [if_pos (by omega), if_pos (by omega)]
theorem leafB_size (s : ByteArray) (hs : s.size ≤ 562949953421311) : (TM.leafB s).size ≤ 562949953421312 := by
  unfold TM.leafB
  rw [one_size]
  omega
theorem nodeB_size (a b : ByteArray) : (TM.nodeB a b).size = 1 + a.size + b.size := by
  unfold TM.nodeB
  rw [ByteArray.size_append, one_size]
theorem Leaf_f (s : ByteArray) (hs : s.size ≤ 562949953421311) : tree_Leaf.f s = some (sumB (TM.leafB s)) := by
  unfold tree_Leaf.f
  rw [leaf_f s hs]
  refine Eq.trans (Option.bind_some _ _) ?_
  rw [bsum_f _ (leafB_size s hs)]
  exact Option.bind_some _ _
theorem rLeaf_f (s : ByteArray) (hs : s.size ≤ 562949953421311) : cartoucheref03_Leaf.f s = some (sumB (TM.leafB s)) := by
  unfold cartoucheref03_Leaf.f
  rw [rleaf_f s hs]
  refine Eq.trans (Option.bind_some _ _) ?_
  rw [rsum_f _ (leafB_size s hs)]
  exact Option.bind_some _ _
theorem Node_f (a b : ByteArray) (hs : a.size + b.size ≤ 562949953421311) : tree_Node.f a b = some (sumB (TM.nodeB a b)) := by
  unfold tree_Node.f
  rw [node_f a b hs]
  refine Eq.trans (Option.bind_some _ _) ?_
  rw [bsum_f _ (by rw [nodeB_size]; omega)]
  exact Option.bind_some _ _
theorem rNode_f (a b : ByteArray) (hs : a.size + b.size ≤ 562949953421311) : cartoucheref03_Node.f a b = some (sumB (TM.nodeB a b)) := by
  unfold cartoucheref03_Node.f
  rw [rnode_f a b hs]
  refine Eq.trans (Option.bind_some _ _) ?_
  rw [rsum_f _ (by rw [nodeB_size]; omega)]
  exact Option.bind_some _ _

/-! ### Climbs -/
theorem lastB_get {l : List ByteArray} (h : l ≠ []) : l.getD (l.length - 1) ByteArray.empty = TM.lastB l := by
  have hl : l.length = (l.length - 1) + 1 := by
    cases l with
    | nil => exact absurd rfl h
    | cons a l => simp
  rw [List.getD_eq_getElem?_getD, last_get hl]
  rfl
theorem take_last (l : List ByteArray) : l.take (l.length - 1) = l.dropLast := by
  rw [List.dropLast_eq_take]
/-- The document's inputs. -/
theorem rinputs_f (s : ByteArray) (hs : s.size ≤ 562949953421311) : ∀ (n i : Nat) (path : List ByteArray), i < n → n ≤ 4096 → (∀ p ∈ path, p.size = 32) → path.length ≤ 9223372036854775806 →
    (∀ L, TM.inputsL sumB n i s path = some L → L.length ≤ path.length + 1 ∧ L ≠ [] ∧ (∀ t ∈ L, t.size ≤ 562949953421312) ∧ (n ≤ 1 → L.length = 1) ∧ Ev (fun k => cartoucheref03_inputs.f k (n : Int) (i : Int) s path) (L, true)) ∧
    (TM.inputsL sumB n i s path = none → ∃ L, Ev (fun k => cartoucheref03_inputs.f k (n : Int) (i : Int) s path) (L, false)) := by
  intro n
  induction n using Nat.strongRecOn with
  | ind n ih =>
    intro i path hi hm h32 hl
    unfold TM.inputsL
    by_cases h1 : 1 < n
    · have hp := TM.half_pos n; have hlt := TM.half_lt n h1
      rw [dif_pos h1]
      by_cases he : path = []
      · rw [if_pos he]
        refine ⟨(fun L h => by cases h), fun _ => ⟨[], ?_⟩⟩
        refine Ev.step (f := fun _ => some ([], false)) (fun k => ?_) (Ev.now _)
        simp only [cartoucheref03_inputs.f]
        rw [if_neg (by omega), if_pos (by rw [he]; rfl)]
      · rw [if_neg he]
        have hpl : 1 ≤ path.length := by
          cases path with
          | nil => exact absurd rfl he
          | cons a l => simp
        have hw : wrap64 ((path.length : Int) - 1) = ((path.length - 1 : Nat) : Int) := by rw [wrap_id (by omega) (by omega)]; omega
        have hd32 : ∀ p ∈ path.dropLast, p.size = 32 := fun p hp => h32 p (List.dropLast_subset _ hp)
        have hdl : path.dropLast.length = path.length - 1 := List.length_dropLast
        have hla : (TM.lastB path).size = 32 := by
          rw [TM.snoc_of he] at h32
          exact h32 _ (by simp)
        by_cases hc : i < TM.halfN n
        · have IH := ih (TM.halfN n) hlt i path.dropLast hc (by omega) hd32 (by omega)
          rw [if_pos hc]
          have start : ∀ L b, Ev (fun k => cartoucheref03_inputs.f k (TM.halfN n : Int) (i : Int) s path.dropLast) (L, b) → (b = true → L ≠ [] ∧ L.length ≤ path.length ∧ L.length < 8796093022208 ∧ ∀ t ∈ L, t.size ≤ 562949953421312) →
              Ev (fun k => cartoucheref03_inputs.f k (n : Int) (i : Int) s path) (if b = true then (L ++ [TM.nodeB (sumB (TM.lastB L)) (TM.lastB path)], true) else ([], false)) := fun L b hev hb => by
            refine Ev.step (f := fun k => (cartoucheref03_half.f k (n : Int)).bind fun t266 => _) (fun k => by
              simp only [cartoucheref03_inputs.f]
              rw [if_neg (by omega), if_neg (by omega)]) ?_
            refine Ev.bind (rhalf_f n hm) ?_
            rw [hw]
            simp only [if_pos (show (0 : Int) ≤ ((path.length - 1 : Nat) : Int) by omega), if_pos (show ((path.length - 1 : Nat) : Int) < (path.length : Int) by omega), if_pos (show (i : Int) < (TM.halfN n : Int) by omega), if_pos (show ((path.length - 1 : Nat) : Int) ≤ (path.length : Int) by omega), Int.toNat_natCast, take_last, rd_nat, lastB_get he]
            refine Ev.bind hev ?_
            cases b with
            | false => 
              simp only [Bool.false_eq_true, if_false]
              exact Ev.now _
            | true =>
              obtain ⟨b1, b2, b3, b4⟩ := hb rfl
              have hLl : 1 ≤ L.length := by
                cases L with
                | nil => exact absurd rfl b1
                | cons a l => simp
              have hwL : wrap64 ((L.length : Int) - 1) = ((L.length - 1 : Nat) : Int) := by rw [wrap_id (by omega) (by omega)]; omega
              simp only [if_true, hwL, rd_nat, lastB_get b1]
              have hml : TM.lastB L ∈ L := by
                have := TM.snoc_of b1
                rw [this, TM.lastB_snoc]
                simp
              rw [if_pos (by omega), if_pos (by omega), rsum_f _ (b4 _ hml)]
              simp only [Option.bind_some]
              rw [rnode_f _ _ (by rw [sumB_size, hla]; decide)]
              simp only [Option.bind_some]
              rw [if_pos b3]
              exact Ev.now _
          cases hin : TM.inputsL sumB (TM.halfN n) i s path.dropLast with
          | none =>
            refine ⟨(fun L h => by simp at h), fun _ => ?_⟩
            obtain ⟨L, hev⟩ := IH.2 hin
            exact ⟨_, start L false hev (fun h => by cases h)⟩
          | some L =>
            obtain ⟨i1, i2, i3, _, i4⟩ := IH.1 L hin
            refine ⟨fun L' h => ?_, (fun h => by simp at h)⟩
            have h' : L ++ [TM.nodeB (sumB (TM.lastB L)) (TM.lastB path)] = L' := by simpa using h
            subst h'
            refine ⟨by simp; omega, by simp, fun t ht => ?_, fun h => absurd h (by omega), ?_⟩
            · rcases List.mem_append.1 ht with ht | ht
              · exact i3 t ht
              · obtain rfl := List.mem_singleton.1 ht
                rw [nodeB_size, sumB_size, hla]
                decide
            · by_cases hsm : L.length < 8796093022208
              · exact start L true i4 (fun _ => ⟨i2, by omega, hsm, i3⟩)
              · exfalso
                have := TM.inputs_climb sumB s (TM.halfN n) 0 i path.dropLast (by omega) (by omega)
                rw [Nat.sub_zero, hin] at this
                split at this
                · rename_i hx
                  have h12 := TM.way_le 12 (TM.halfN n) 0 i (by omega)
                  omega
                · cases this
        · have IH := ih (n - TM.halfN n) (by omega) (i - TM.halfN n) path.dropLast (by omega) (by omega) hd32 (by omega)
          rw [if_neg hc]
          have start : ∀ L b, Ev (fun k => cartoucheref03_inputs.f k ((n - TM.halfN n : Nat) : Int) ((i - TM.halfN n : Nat) : Int) s path.dropLast) (L, b) → (b = true → L ≠ [] ∧ L.length ≤ path.length ∧ L.length < 8796093022208 ∧ ∀ t ∈ L, t.size ≤ 562949953421312) →
              Ev (fun k => cartoucheref03_inputs.f k (n : Int) (i : Int) s path) (if b = true then (L ++ [TM.nodeB (TM.lastB path) (sumB (TM.lastB L))], true) else ([], false)) := fun L b hev hb => by
            refine Ev.step (f := fun k => (cartoucheref03_half.f k (n : Int)).bind fun t266 => _) (fun k => by
              simp only [cartoucheref03_inputs.f]
              rw [if_neg (by omega), if_neg (by omega)]) ?_
            refine Ev.bind (rhalf_f n hm) ?_
            rw [hw]
            simp only [if_pos (show (0 : Int) ≤ ((path.length - 1 : Nat) : Int) by omega), if_pos (show ((path.length - 1 : Nat) : Int) < (path.length : Int) by omega), if_neg (show ¬ (i : Int) < (TM.halfN n : Int) by omega), if_pos (show ((path.length - 1 : Nat) : Int) ≤ (path.length : Int) by omega), Int.toNat_natCast, take_last, rd_nat, lastB_get he]
            rw [wrap_id (x := (n : Int) - (TM.halfN n : Int)) (by omega) (by omega), wrap_id (x := (i : Int) - (TM.halfN n : Int)) (by omega) (by omega), show (n : Int) - (TM.halfN n : Int) = ((n - TM.halfN n : Nat) : Int) by omega, show (i : Int) - (TM.halfN n : Int) = ((i - TM.halfN n : Nat) : Int) by omega]
            refine Ev.bind hev ?_
            cases b with
            | false => 
              simp only [Bool.false_eq_true, if_false]
              exact Ev.now _
            | true =>
              obtain ⟨b1, b2, b3, b4⟩ := hb rfl
              have hLl : 1 ≤ L.length := by
                cases L with
                | nil => exact absurd rfl b1
                | cons a l => simp
              have hwL : wrap64 ((L.length : Int) - 1) = ((L.length - 1 : Nat) : Int) := by rw [wrap_id (by omega) (by omega)]; omega
              simp only [if_true, hwL, rd_nat, lastB_get b1]
              have hml : TM.lastB L ∈ L := by
                have := TM.snoc_of b1
                rw [this, TM.lastB_snoc]
                simp
              rw [if_pos (by omega), if_pos (by omega), rsum_f _ (b4 _ hml)]
              simp only [Option.bind_some]
              rw [rnode_f _ _ (by rw [sumB_size, hla]; decide)]
              simp only [Option.bind_some]
              rw [if_pos b3]
              exact Ev.now _
          cases hin : TM.inputsL sumB (n - TM.halfN n) (i - TM.halfN n) s path.dropLast with
          | none =>
            refine ⟨(fun L h => by simp at h), fun _ => ?_⟩
            obtain ⟨L, hev⟩ := IH.2 hin
            exact ⟨_, start L false hev (fun h => by cases h)⟩
          | some L =>
            obtain ⟨i1, i2, i3, _, i4⟩ := IH.1 L hin
            refine ⟨fun L' h => ?_, (fun h => by simp at h)⟩
            have h' : L ++ [TM.nodeB (TM.lastB path) (sumB (TM.lastB L))] = L' := by simpa using h
            subst h'
            refine ⟨by simp; omega, by simp, fun t ht => ?_, fun h => absurd h (by omega), ?_⟩
            · rcases List.mem_append.1 ht with ht | ht
              · exact i3 t ht
              · obtain rfl := List.mem_singleton.1 ht
                rw [nodeB_size, sumB_size, hla]
                decide
            · by_cases hsm : L.length < 8796093022208
              · exact start L true i4 (fun _ => ⟨i2, by omega, hsm, i3⟩)
              · exfalso
                have := TM.inputs_climb sumB s (n - TM.halfN n) 0 (i - TM.halfN n) path.dropLast (by omega) (by omega)
                rw [Nat.sub_zero, hin] at this
                split at this
                · rename_i hx
                  have h12 := TM.way_le 12 (n - TM.halfN n) 0 (i - TM.halfN n) (by omega)
                  omega
                · cases this
    · obtain rfl : n = 1 := by omega
      rw [dif_neg h1]
      have start : Ev (fun k => cartoucheref03_inputs.f k ((1 : Nat) : Int) (i : Int) s path) ([TM.leafB s], ((path.length : Int) == 0)) := by
        refine Ev.step (f := fun _ => some ([TM.leafB s], ((path.length : Int) == 0))) (fun k => ?_) (Ev.now _)
        simp only [cartoucheref03_inputs.f]
        rw [if_pos (by rfl), rleaf_f s hs]
        rfl
      by_cases he : path = []
      · rw [if_pos he]
        subst he
        refine ⟨fun L h => ?_, (fun h => by cases h)⟩
        obtain rfl := Option.some.inj h
        refine ⟨by simp, by simp, fun t ht => ?_, fun _ => rfl, start⟩
        obtain rfl := List.mem_singleton.1 ht
        exact leafB_size s hs
      · rw [if_neg he]
        refine ⟨(fun L h => by cases h), fun _ => ⟨[TM.leafB s], ?_⟩⟩
        have e : ((path.length : Int) == 0) = false := by
          refine beq_eq_false_iff_ne.mpr fun h => he (List.eq_nil_of_length_eq_zero (by omega))
        rw [e] at start
        exact start
/-- Climb. -/
def climbR (n i : Int) (s : ByteArray) (path : List ByteArray) : List ByteArray × Int :=
  if n < 1 ∨ 4096 < n ∨ i < 0 ∨ n ≤ i then ([], 1)
  else if path.length ≠ (TM.wayL 0 n.toNat i.toNat).length ∨ ∃ p ∈ path, p.size ≠ 32 then ([], 14)
  else (TM.climbF sumB (TM.rights 0 n.toNat i.toNat) path [TM.leafB s] ++ [rootB n.toNat (sumB (TM.lastB (TM.climbF sumB (TM.rights 0 n.toNat i.toNat) path [TM.leafB s])))], 0)
theorem climb_f (n i : Int) (s : ByteArray) (path : List ByteArray) (hs : s.size ≤ 562949953421311) : tree_Climb.f n i s path = some (climbR n i s path) := by
  unfold tree_Climb.f climbR
  split
  · rfl
  · split
    · rfl
    · first | rfl | rw [if_pos hs]
theorem rclimb_l0 (n i : Nat) (s : ByteArray) (path : List ByteArray) (hs : s.size ≤ 562949953421311) (hi : i < n) (hm : n ≤ 4096) (hl : path.length ≤ 9223372036854775806) : ∀ (d k : Nat), k + d = path.length → (∀ p ∈ path.take k, p.size = 32) →
    Ev (fun q => cartoucheref03_Climb.l0 q (n : Int) (i : Int) s path (k : Int)) (climbR n i s path)
  | 0, k, hk, hp => by
    have h32 : ∀ p ∈ path, p.size = 32 := by rw [List.take_of_length_le (by omega)] at hp; exact hp
    have hin := TM.inputs_climb sumB s n 0 i path (by omega) (by omega)
    rw [Nat.sub_zero] at hin
    have hI := rinputs_f s hs n i path hi hm h32 hl
    have hR : climbR n i s path = if path.length = (TM.wayL 0 n i).length then (TM.climbF sumB (TM.rights 0 n i) path [TM.leafB s] ++ [rootB n (sumB (TM.lastB (TM.climbF sumB (TM.rights 0 n i) path [TM.leafB s])))], 0) else ([], 14) := by
      unfold climbR
      rw [if_neg (by omega)]
      simp only [Int.toNat_natCast]
      by_cases h : path.length = (TM.wayL 0 n i).length
      · rw [if_neg (fun hx => hx.elim (fun h1 => h1 h) (fun ⟨p, h1, h2⟩ => h2 (h32 p h1))), if_pos h]
      · rw [if_pos (.inl h), if_neg h]
    rw [hR]
    by_cases h : path.length = (TM.wayL 0 n i).length
    · rw [if_pos h] at hin ⊢
      obtain ⟨i1, i2, i3, _, i4⟩ := hI.1 _ hin
      have h12 := TM.way_le 12 n 0 i hm
      refine Ev.step (f := fun q => (cartoucheref03_inputs.f q (n : Int) (i : Int) s path).bind fun bt291 => _) (fun q => by
        simp only [cartoucheref03_Climb.l0]
        rw [if_neg (by omega)]) ?_
      refine Ev.bind i4 ?_
      have hLl := TM.climbF_length sumB (TM.rights 0 n i) path [TM.leafB s] (by rw [TM.rights_length, h])
      generalize TM.climbF sumB (TM.rights 0 n i) path [TM.leafB s] = L at *
      have hL1 : 1 ≤ L.length := by
        cases L with
        | nil => exact absurd rfl i2
        | cons a l => simp
      have hwL : wrap64 ((L.length : Int) - 1) = ((L.length - 1 : Nat) : Int) := by rw [wrap_id (by omega) (by omega)]; omega
      have hml : TM.lastB L ∈ L := by
        have := TM.snoc_of i2
        rw [this, TM.lastB_snoc]
        simp
      simp only [if_true, hwL, rd_nat, lastB_get i2]
      simp only [if_pos (show (0 : Int) ≤ ((L.length - 1 : Nat) : Int) by omega), if_pos (show ((L.length - 1 : Nat) : Int) < (L.length : Int) by omega), rsum_f _ (i3 _ hml), Option.bind_some]
      refine Ev.bind (rroot_f n _ hm (by rw [sumB_size]; decide)) ?_
      rw [if_pos (by omega)]
      exact Ev.now _
    · rw [if_neg h] at hin ⊢
      obtain ⟨L, hev⟩ := hI.2 hin
      refine Ev.step (f := fun q => (cartoucheref03_inputs.f q (n : Int) (i : Int) s path).bind fun bt291 => _) (fun q => by
        simp only [cartoucheref03_Climb.l0]
        rw [if_neg (by omega)]) ?_
      refine Ev.bind hev ?_
      simp only [Bool.false_eq_true, if_false]
      exact Ev.now _
  | d + 1, k, hk, hp => by
    by_cases h : (path.getD k ByteArray.empty).size = 32
    · have hg : path.getD k ByteArray.empty = path[k]'(by omega) := by
        rw [List.getD_eq_getElem?_getD, List.getElem?_eq_getElem (by omega)]
        rfl
      have ih := rclimb_l0 n i s path hs hi hm hl d (k + 1) (by omega) (fun p hpm => by
        rw [List.take_succ_eq_append_getElem (by omega)] at hpm
        rcases List.mem_append.1 hpm with hpm | hpm
        · exact hp p hpm
        · obtain rfl := List.mem_singleton.1 hpm
          rw [← hg]
          exact h)
      refine Ev.step (fun q => ?_) ih
      simp only [cartoucheref03_Climb.l0]
      rw [if_pos (by omega), if_pos (by omega), rd_nat, if_pos (by omega), wrap_id (by omega) (by omega)]
      rfl
    · have hR : climbR n i s path = ([], 14) := by
        have hmem : path.getD k ByteArray.empty ∈ path := by
          rw [List.getD_eq_getElem?_getD, List.getElem?_eq_getElem (by omega)]
          exact List.getElem_mem _
        unfold climbR
        rw [if_neg (by omega), if_pos (.inr ⟨path.getD k ByteArray.empty, hmem, h⟩)]
      rw [hR]
      refine Ev.step (f := fun _ => some ([], (14 : Int))) (fun q => ?_) (Ev.now _)
      simp only [cartoucheref03_Climb.l0]
      rw [if_pos (by omega), if_pos (by omega), rd_nat, if_neg (by omega)]
theorem rclimb_f (n i : Int) (s : ByteArray) (path : List ByteArray) (hs : s.size ≤ 562949953421311) (hl : path.length ≤ 9223372036854775806) : Ev (fun q => cartoucheref03_Climb.f q n i s path) (climbR n i s path) := by
  unfold cartoucheref03_Climb.f
  have bad : n < 1 ∨ 4096 < n ∨ i < 0 ∨ n ≤ i → Ev (fun q => cartoucheref03_Climb.j0 q n i s path true) (climbR n i s path) := fun h => by
    unfold climbR
    rw [if_pos h]
    refine Ev.step (f := fun _ => some ([], (1 : Int))) (fun q => ?_) (Ev.now _)
    simp only [cartoucheref03_Climb.j0, if_true]
  by_cases h1 : n < 1
  · simp only [if_pos h1]
    exact bad (.inl h1)
  by_cases h2 : 4096 < n
  · simp only [if_neg h1, if_pos (show n > 4096 from h2)]
    exact bad (.inr (.inl h2))
  by_cases h3 : i < 0
  · simp only [if_neg h1, if_neg (show ¬ n > 4096 from h2), if_pos h3]
    exact bad (.inr (.inr (.inl h3)))
  by_cases h4 : n ≤ i
  · simp only [if_neg h1, if_neg (show ¬ n > 4096 from h2), if_neg h3, decide_eq_true (show i ≥ n from h4)]
    exact bad (.inr (.inr (.inr h4)))
  simp only [if_neg h1, if_neg (show ¬ n > 4096 from h2), if_neg h3, decide_eq_false (show ¬ i ≥ n from h4)]
  obtain ⟨N, rfl⟩ : ∃ N : Nat, n = (N : Int) := ⟨n.toNat, by omega⟩
  obtain ⟨I, rfl⟩ : ∃ I : Nat, i = (I : Int) := ⟨i.toNat, by omega⟩
  refine Ev.step (f := fun q => cartoucheref03_Climb.l0 q (N : Int) (I : Int) s path ((0 : Nat) : Int)) (fun q => ?_) (rclimb_l0 N I s path hs (by omega) (by omega) hl path.length 0 (by omega) (by simp))
  simp only [cartoucheref03_Climb.j0, Bool.false_eq_true, if_false]
  rfl

/-! ### Proofs checked -/
theorem climbR_ok {n i : Int} {s : ByteArray} {path : List ByteArray} (h : (climbR n i s path).2 = 0) (hs : s.size ≤ 562949953421311) :
    (1 ≤ n ∧ n ≤ 4096 ∧ 0 ≤ i ∧ i < n) ∧ path.length = (TM.wayL 0 n.toNat i.toNat).length ∧ (∀ p ∈ path, p.size = 32) ∧
    (climbR n i s path).1 = TM.climbF sumB (TM.rights 0 n.toNat i.toNat) path [TM.leafB s] ++ [rootB n.toNat (sumB (TM.lastB (TM.climbF sumB (TM.rights 0 n.toNat i.toNat) path [TM.leafB s])))] ∧
    (climbR n i s path).1.length = (TM.wayL 0 n.toNat i.toNat).length + 2 ∧ ∀ t ∈ (climbR n i s path).1, t.size ≤ 562949953421312 := by
  have ho := climbf_ok (climb_f n i s path hs)
  rcases ho with ⟨h1, _⟩ | ⟨_, h2, h3⟩
  · exact absurd h h1
  · refine ⟨?_, ?_, ?_, ?_, h2, h3⟩
    all_goals
      unfold climbR at h
      try unfold climbR
      split at h
      · cases h
      · split at h
        · cases h
        · rename_i h4 h5
          first
            | omega
            | exact Decidable.byContradiction fun hn => h5 (.inl hn)
            | exact fun p hp => Decidable.byContradiction fun hn => h5 (.inr ⟨p, hp, hn⟩)
            | rw [if_neg h4, if_neg h5]
theorem climbR_bad {n i : Int} {s : ByteArray} {path : List ByteArray} (h : (climbR n i s path).2 ≠ 0) : (climbR n i s path).1 = [] := by
  unfold climbR at h ⊢
  split
  · rfl
  · split
    · rfl
    · rename_i h4 h5
      rw [if_neg h4, if_neg h5] at h
      exact absurd rfl h
theorem climb_le12 {n i : Int} {s : ByteArray} {path : List ByteArray} (h : (climbR n i s path).2 = 0) : (TM.wayL 0 n.toNat i.toNat).length ≤ 12 := by
  unfold climbR at h
  split at h
  · cases h
  · exact TM.way_le 12 _ 0 _ (by omega)
def checkR (root : ByteArray) (n i : Int) (s : ByteArray) (path : List ByteArray) : Int :=
  if (climbR n i s path).2 = 0 then (if sumB (TM.lastB (climbR n i s path).1) = root then 0 else 13) else (climbR n i s path).2
theorem check_f (root : ByteArray) (n i : Int) (s : ByteArray) (path : List ByteArray) (hs : s.size ≤ 562949953421311) : tree_Check.f root n i s path = some (checkR root n i s path) := by
  unfold tree_Check.f checkR
  rw [climb_f n i s path hs]
  simp only [Option.bind_some]
  by_cases h : (climbR n i s path).2 = 0
  · obtain ⟨_, _, _, _, hl, ht⟩ := climbR_ok h hs
    rw [if_pos h, if_pos h]
    generalize (climbR n i s path).1 = L at *
    have hne : L ≠ [] := by rintro rfl; simp at hl
    have h12 : L.length ≤ 9223372036854775806 := by
      have := climb_le12 h
      omega
    have hwL : wrap64 ((L.length : Int) - 1) = ((L.length - 1 : Nat) : Int) := by rw [wrap_id (by omega) (by omega)]; omega
    have hml : TM.lastB L ∈ L := by
      have := TM.snoc_of hne
      rw [this, TM.lastB_snoc]
      simp
    simp only [hwL, rd_nat, lastB_get hne]
    rw [if_pos (by omega), if_pos (by omega), bsum_f _ (ht _ hml)]
    simp only [Option.bind_some, toList_inj]
    split <;> rfl
  · rw [if_neg h, if_neg h]
theorem rcheck_f (root : ByteArray) (n i : Int) (s : ByteArray) (path : List ByteArray) (hs : s.size ≤ 562949953421311) (hp : path.length ≤ 9223372036854775806) : Ev (fun k => cartoucheref03_Check.f k root n i s path) (checkR root n i s path) := by
  unfold cartoucheref03_Check.f checkR
  refine Ev.bind (rclimb_f n i s path hs hp) ?_
  by_cases h : (climbR n i s path).2 = 0
  · obtain ⟨_, _, _, _, hl, ht⟩ := climbR_ok h hs
    simp only [if_pos h]
    generalize (climbR n i s path).1 = L at *
    have hne : L ≠ [] := by rintro rfl; simp at hl
    have h12 : L.length ≤ 9223372036854775806 := by
      have := climb_le12 h
      omega
    have hwL : wrap64 ((L.length : Int) - 1) = ((L.length - 1 : Nat) : Int) := by rw [wrap_id (by omega) (by omega)]; omega
    have hml : TM.lastB L ∈ L := by
      have := TM.snoc_of hne
      rw [this, TM.lastB_snoc]
      simp
    simp only [hwL, rd_nat, lastB_get hne]
    simp only [if_pos (show (0 : Int) ≤ ((L.length - 1 : Nat) : Int) by omega), if_pos (show ((L.length - 1 : Nat) : Int) < (L.length : Int) by omega), rsum_f _ (ht _ hml), Option.bind_some, toList_inj]
    by_cases hr : sumB (TM.lastB L) = root
    · simp only [if_pos hr]
      exact Ev.now _
    · simp only [if_neg hr]
      exact Ev.now _
  · simp only [if_neg h]
    exact Ev.now _

/-! ### What is given away -/
theorem unlike_f (a b : ByteArray) (ha : a.size ≤ 562949953421312) (hb : b.size ≤ 562949953421312) : tree_unlike.f a b = some (tellL (TM.unlikeL sumB a b)) := by
  unfold tree_unlike.f TM.unlikeL tellL
  rw [bsum_f a ha, bsum_f b hb]
  simp only [Option.bind_some, toList_inj]
  by_cases h1 : a = b
  · rw [if_pos h1, if_pos h1]
  · rw [if_neg h1, if_neg h1]
    by_cases h2 : sumB a = sumB b
    · rw [if_pos h2, if_pos h2]
    · rw [if_neg h2, if_neg h2]
theorem runlike_f (a b : ByteArray) (ha : a.size ≤ 562949953421312) (hb : b.size ≤ 562949953421312) : cartoucheref03_unlike.f a b = some (tellL (TM.unlikeL sumB a b)) := by
  unfold cartoucheref03_unlike.f TM.unlikeL tellL
  rw [rsum_f a ha, rsum_f b hb]
  simp only [Option.bind_some, toList_inj]
  by_cases h1 : a = b
  · rw [if_pos h1, if_pos h1]
  · rw [if_neg h1, if_neg h1]
    by_cases h2 : sumB a = sumB b
    · rw [if_pos h2, if_pos h2]
    · rw [if_neg h2, if_neg h2]
def clashR (n i : Int) (a : ByteArray) (p : List ByteArray) (b : ByteArray) (q : List ByteArray) : ByteArray × ByteArray × Bool :=
  if (climbR n i a p).2 ≠ 0 ∨ (climbR n i b q).2 ≠ 0 then (⟨#[]⟩, ⟨#[]⟩, false) else tellL (TM.scanL sumB (climbR n i a p).1.reverse (climbR n i b q).1.reverse)
theorem clash_f (n i : Int) (a : ByteArray) (p : List ByteArray) (b : ByteArray) (q : List ByteArray) (ha : a.size ≤ 562949953421311) (hb : b.size ≤ 562949953421311) : tree_Clash.f n i a p b q = some (clashR n i a p b q) := by
  unfold tree_Clash.f clashR
  rw [climb_f n i a p ha, climb_f n i b q hb]
  rfl
theorem rclash_l0 (x y : List ByteArray) (hl : x.length = y.length) (hm : x.length ≤ 9223372036854775806) (hx : ∀ t ∈ x, t.size ≤ 562949953421312) (hy : ∀ t ∈ y, t.size ≤ 562949953421312) : ∀ (j : Nat), j ≤ x.length →
    Ev (fun k => cartoucheref03_Clash.l0 k x y ((j : Int) - 1)) (tellL (TM.scanL sumB (x.take j).reverse (y.take j).reverse))
  | 0, _ => by
    refine Ev.step (f := fun _ => some (⟨#[]⟩, ⟨#[]⟩, false)) (fun k => ?_) (Ev.now _)
    simp only [cartoucheref03_Clash.l0]
    rw [if_neg (by omega)]
  | j + 1, hj => by
    have ih := rclash_l0 x y hl hm hx hy j (by omega)
    have e1 : (x.take (j + 1)).reverse = x.getD j ByteArray.empty :: (x.take j).reverse := by
      rw [List.take_succ_eq_append_getElem (by omega), List.reverse_append, List.getD_eq_getElem?_getD, List.getElem?_eq_getElem (by omega)]
      rfl
    have e2 : (y.take (j + 1)).reverse = y.getD j ByteArray.empty :: (y.take j).reverse := by
      rw [List.take_succ_eq_append_getElem (by omega), List.reverse_append, List.getD_eq_getElem?_getD, List.getElem?_eq_getElem (by omega)]
      rfl
    have m1 : x.getD j ByteArray.empty ∈ x := by
      rw [List.getD_eq_getElem?_getD, List.getElem?_eq_getElem (by omega)]
      exact List.getElem_mem _
    have m2 : y.getD j ByteArray.empty ∈ y := by
      rw [List.getD_eq_getElem?_getD, List.getElem?_eq_getElem (by omega)]
      exact List.getElem_mem _
    rw [e1, e2, TM.scanL]
    have hjj : ((j + 1 : Nat) : Int) - 1 = (j : Int) := by omega
    rw [hjj]
    by_cases h : x.getD j ByteArray.empty = y.getD j ByteArray.empty
    · rw [if_pos h]
      refine Ev.step (fun k => ?_) ih
      simp only [cartoucheref03_Clash.l0]
      rw [if_pos (by omega), if_pos (by omega), if_pos (by omega), if_pos (by omega), rd_nat, rd_nat, if_pos (toList_inj.2 h), wrap_id (by omega) (by omega)]
    · rw [if_neg h]
      refine Ev.step (f := fun _ => some _) (fun k => ?_) (Ev.now _)
      simp only [cartoucheref03_Clash.l0]
      rw [if_pos (by omega), if_pos (by omega), if_pos (by omega), if_pos (by omega), rd_nat, rd_nat, if_neg (fun e => h (toList_inj.1 e)), runlike_f _ _ (hx _ m1) (hy _ m2)]
      rfl
theorem rclash_f (n i : Int) (a : ByteArray) (p : List ByteArray) (b : ByteArray) (q : List ByteArray) (ha : a.size ≤ 562949953421311) (hb : b.size ≤ 562949953421311) (hp : p.length ≤ 9223372036854775806) (hq : q.length ≤ 9223372036854775806) :
    Ev (fun k => cartoucheref03_Clash.f k n i a p b q) (clashR n i a p b q) := by
  unfold cartoucheref03_Clash.f clashR
  refine Ev.bind (rclimb_f n i a p ha hp) (Ev.bind (rclimb_f n i b q hb hq) ?_)
  have bad : Ev (fun k => cartoucheref03_Clash.j0 k (climbR n i a p).1 (climbR n i b q).1 true) (⟨#[]⟩, ⟨#[]⟩, false) := by
    refine Ev.step (f := fun _ => some _) (fun k => ?_) (Ev.now _)
    simp only [cartoucheref03_Clash.j0, if_true]
  by_cases h1 : (climbR n i a p).2 = 0
  · simp only [if_pos h1]
    by_cases h2 : (climbR n i b q).2 = 0
    · rw [if_neg (by rintro (h | h); exact h h1; exact h h2), show ((climbR n i b q).2 != 0) = false by rw [h2]; rfl]
      obtain ⟨_, _, _, _, hlx, htx⟩ := climbR_ok h1 ha
      obtain ⟨_, _, _, _, hly, hty⟩ := climbR_ok h2 hb
      have h12 := climb_le12 h1
      have := rclash_l0 (climbR n i a p).1 (climbR n i b q).1 (by omega) (by omega) htx hty (climbR n i a p).1.length (Nat.le_refl _)
      rw [List.take_of_length_le (Nat.le_refl _), List.take_of_length_le (by omega)] at this
      refine Ev.step (fun k => ?_) this
      simp only [cartoucheref03_Clash.j0, Bool.false_eq_true, if_false]
      rw [wrap_id (by omega) (by omega)]
    · rw [if_pos (.inr h2), show ((climbR n i b q).2 != 0) = true from bne_iff_ne.mpr h2]
      exact bad
  · simp only [if_neg h1]
    rw [if_pos (.inl h1)]
    exact bad

/-! ### Rows -/
theorem crowns_f : ∀ (n : Nat) (a b : List ByteArray), a.length = n → b.length = n → 1 ≤ n → n ≤ 4096 → (∀ s ∈ a, s.size ≤ 562949953421311) → (∀ s ∈ b, s.size ≤ 562949953421311) →
    Ev (fun k => tree_crowns.f k a b) (tellL (TM.crownsL sumB a b)) ∧ Ev (fun k => cartoucheref03_crowns.f k a b) (tellL (TM.crownsL sumB a b)) := by
  intro n
  induction n using Nat.strongRecOn with
  | ind n ih =>
    intro a b ha hb h1 hm hA hB
    unfold TM.crownsL
    have ta := top_f a hA (by omega) (by omega); have tb := top_f b hB (by omega) (by omega)
    have ra := rtop_f a hA (by omega) (by omega); have rb := rtop_f b hB (by omega) (by omega)
    have sa := top_size a hA; have sb := top_size b hB
    by_cases he : TM.topL sumB a = TM.topL sumB b
    · rw [if_pos he]
      by_cases h2 : 1 < n
      · have hp := TM.half_pos n; have hlt := TM.half_lt n h2
        rw [dif_pos (by omega), ha]
        have I1 := ih (TM.halfN n) hlt (a.take (TM.halfN n)) (b.take (TM.halfN n)) (by rw [List.length_take]; omega) (by rw [List.length_take]; omega) (by omega) (by omega) (fun s h => hA s (List.mem_of_mem_take h)) (fun s h => hB s (List.mem_of_mem_take h))
        have I2 := ih (n - TM.halfN n) (by omega) (a.drop (TM.halfN n)) (b.drop (TM.halfN n)) (by rw [List.length_drop]; omega) (by rw [List.length_drop]; omega) (by omega) (by omega) (fun s h => hA s (List.mem_of_mem_drop h)) (fun s h => hB s (List.mem_of_mem_drop h))
        generalize TM.crownsL sumB (a.take (TM.halfN n)) (b.take (TM.halfN n)) = o1 at *
        generalize TM.crownsL sumB (a.drop (TM.halfN n)) (b.drop (TM.halfN n)) = o2 at *
        constructor
        · refine Ev.step (f := fun k => (tree_crowns.f k (a.take (TM.halfN n)) (b.take (TM.halfN n))).bind fun bt207 => (if bt207.2.2 = true then (some (bt207.1, bt207.2.1, bt207.2.2)) else ((tree_crowns.f k (a.drop (TM.halfN n)) (b.drop (TM.halfN n))).bind fun bt212 => (some (bt212.1, bt212.2.1, bt212.2.2))))) (fun k => ?_) ?_
          · simp only [tree_crowns.f]
            rw [ta, tb]
            simp only [Option.bind_some]
            rw [if_pos (toList_inj.2 he), if_neg (by omega), ha, half_f n hm]
            simp only [Option.bind_some]
            rw [if_pos (by omega), if_pos (by omega), if_pos (by omega), Int.toNat_natCast]
          · refine Ev.bind I1.1 ?_
            cases o1 with
            | some t =>
              simp only [tellL, if_true]
              exact Ev.now _
            | none =>
              simp only [tellL, Bool.false_eq_true, if_false]
              refine Ev.bind I2.1 ?_
              cases o2 <;> exact Ev.now _
        · refine Ev.step (f := fun k => (cartoucheref03_half.f k (n : Int)).bind fun t367 => (if 0 ≤ t367 then (if t367 ≤ (n : Int) then (if t367 ≤ (b.length : Int) then ((cartoucheref03_crowns.f k (a.take (t367 : Int).toNat) (b.take (t367 : Int).toNat)).bind fun bt370 => (if bt370.2.2 = true then (some (bt370.1, bt370.2.1, true)) else ((cartoucheref03_crowns.f k (a.drop (t367 : Int).toNat) (b.drop (t367 : Int).toNat)).bind fun bt375 => (some (bt375.1, bt375.2.1, bt375.2.2))))) else (none)) else (none)) else (none))) (fun k => ?_) ?_
          · simp only [cartoucheref03_crowns.f]
            rw [ra, rb]
            simp only [Option.bind_some]
            rw [if_pos (toList_inj.2 he), if_neg (by omega), ha]
          · refine Ev.bind (rhalf_f n hm) ?_
            simp only [if_pos (show (0 : Int) ≤ (TM.halfN n : Int) by omega), if_pos (show (TM.halfN n : Int) ≤ (n : Int) by omega), if_pos (show (TM.halfN n : Int) ≤ (b.length : Int) by omega), Int.toNat_natCast]
            refine Ev.bind I1.2 ?_
            cases o1 with
            | some t =>
              simp only [tellL, if_true]
              exact Ev.now _
            | none =>
              simp only [tellL, Bool.false_eq_true, if_false]
              refine Ev.bind I2.2 ?_
              cases o2 <;> exact Ev.now _
      · rw [dif_neg (by omega)]
        constructor
        · refine Ev.step (f := fun _ => some (⟨#[]⟩, ⟨#[]⟩, false)) (fun k => ?_) (Ev.now _)
          simp only [tree_crowns.f]
          rw [ta, tb]
          simp only [Option.bind_some]
          rw [if_pos (toList_inj.2 he), if_pos (by omega)]
        · refine Ev.step (f := fun _ => some (⟨#[]⟩, ⟨#[]⟩, false)) (fun k => ?_) (Ev.now _)
          simp only [cartoucheref03_crowns.f]
          rw [ra, rb]
          simp only [Option.bind_some]
          rw [if_pos (toList_inj.2 he), if_pos (by omega)]
    · rw [if_neg he]
      constructor
      · refine Ev.step (f := fun _ => some _) (fun k => ?_) (Ev.now _)
        simp only [tree_crowns.f]
        rw [ta, tb]
        simp only [Option.bind_some]
        rw [if_neg (fun h => he (toList_inj.1 h)), unlike_f _ _ sa sb]
        rfl
      · refine Ev.step (f := fun _ => some _) (fun k => ?_) (Ev.now _)
        simp only [cartoucheref03_crowns.f]
        rw [ra, rb]
        simp only [Option.bind_some]
        rw [if_neg (fun h => he (toList_inj.1 h)), runlike_f _ _ sa sb]
        rfl
end Go.Proofs.YtlcmpmodfkmfnaaDoor
