/- (as XHeld, but D for each read by itself) A REGION OF A ROUND THAT DRAWS ITS ORDER: the reads (R) yield what they yield in every world of D; D abides each operation that a read need not stand ahead of: then the reads may be taken first; what is left is walked as it comes. -/
import Derived.StillTail
import Derived.OwnWalkIn
import Derived.TacticsIn
import Derived.OrdersIn
set_option linter.unusedVariables false
set_option linter.unusedSimpArgs false
namespace Go.HeldI
section
variable {F : Fence} {n : Nat} {P : Program} {ops : Array Oper} {Q : Exit → Act → World → Prop} {R : List Nat} {D : Nat → World → Prop}

/-- May read i come up behind number j? -/
def need (ops : Array Oper) (i j : Nat) : Bool := i != j && !Region.waitsFor .any ops j i

def YieldsD (P : Program) (ops : Array Oper) (D : World → Prop) (o : Oper) (v : Value) (a : Act) : Prop :=
  (Region.wanted o (yielded ops a.tmps) = true ∧ ∀ w, D w → (execOp a.eval o).run P w = .ok (.value v) w) ∨ (Region.wanted o (yielded ops a.tmps) = false ∧ v = undef)

def wpAnyD (F : Fence) (n : Nat) (P : Program) (ops : Array Oper) (Q : Exit → Act → World → Prop) (R : List Nat) (D : Nat → World → Prop) : Nat → Array Bool → Act → World → Prop
  | 0, listed, a, w => Region.ready .any ops listed = [] ∧ Q .normal a w
  | fuel + 1, listed, a, w =>
    (Region.ready .any ops listed = [] → Q .normal a w) ∧
    ∀ i ∈ Region.ready .any ops listed, wpOpIn F n P ops Q i (fun a' w' => (∀ z ∈ R, need ops z i = true → D z w → D z w') ∧ wpAnyD F n P ops Q R D fuel (listed.setIfInBounds i true) a' w') a w

theorem wpAnyIn_of_D : ∀ (fuel : Nat) (listed : Array Bool) (a : Act) (w : World), wpAnyD F n P ops Q R D fuel listed a w → wpAnyIn F n P .any ops Q fuel listed a w
  | 0, _, _, _, h => h
  | fuel + 1, listed, a, w, h => ⟨h.1, fun i hi => wpOpIn_mono (fun a' w' h' => wpAnyIn_of_D fuel _ a' w' h'.2) (h.2 i hi)⟩

theorem YieldsD.of_same {D : World → Prop} {o : Oper} {v : Value} {a a' : Act} (hy : YieldsD P ops D o v a) (he : execOp a'.eval o = execOp a.eval o)
    (hw : Region.wanted o (yielded ops a'.tmps) = Region.wanted o (yielded ops a.tmps)) : YieldsD P ops D o v a' := by
  unfold YieldsD at *
  rw [he, hw]
  exact hy

theorem YieldsD.wpOpIn {D : World → Prop} {i : Nat} {o : Oper} {v : Value} {a : Act} (hF : ∀ f, F.fn f) (hd : ∀ c, o.op ≠ .defer c) (hi : ops[i]? = some o) (hy : YieldsD P ops D o v a)
    {K : Act → World → Prop} {w : World} (hD : D w) (h : K (a.put o.dst v) w) : wpOpIn F n P ops Q i K a w := by
  unfold Go.wpOpIn
  simp only [hi]
  rcases hy with ⟨hw, hv⟩ | ⟨hw, rfl⟩
  · simp only [hw, if_true, Oper.wpIn, Oper.semAt_plain F _ _ hd, hv w hD, Oper.uponIn]
    exact ⟨fun f _ => hF f, h⟩
  · simp only [hw, Bool.false_eq_true, if_false]
    exact ⟨fun f _ => hF f, h⟩

theorem wpOpIn_putD {D : World → Prop} {j : Nat} {oi oj : Oper} {v : Value} (hdj : ∀ c, oj.op ≠ .defer c) (hj : ops[j]? = some oj) (hap : oi.apart ops oj = true)
    (hsi : ∀ cs b, oi.op ≠ .select cs b) (hsj : ∀ cs b, oj.op ≠ .select cs b)
    (hQ : ∀ c a w, Q (.panic c) (a.put oi.dst v) w → Q (.panic c) a w) {K : Act → World → Prop} {a : Act} {w : World}
    (hy : YieldsD P ops D oi v a) (h : wpOpIn F n P ops Q j K (a.put oi.dst v) w) :
    wpOpIn F n P ops Q j (fun a' w' => YieldsD P ops D oi v a' ∧ K (a'.put oi.dst v) w') a w := by
  obtain ⟨h1, h2, h3⟩ := Oper.apart_spec hap
  have keep : ∀ (a : Act), YieldsD P ops D oi v a → ∀ u, YieldsD P ops D oi v (a.put oj.dst u) := fun a hy u =>
    hy.of_same (execOp_put oi hsi a oj.dst u h3) (wanted_put oi a oj.dst u h3)
  have keepD : ∀ d, YieldsD P ops D oi v { a with defers := d :: a.defers } := fun d => hy.of_same rfl rfl
  unfold wpOpIn at *
  simp only [hj] at *
  rw [wanted_put oj a oi.dst v h1, about_put oj w a oi.dst v h1] at h
  split
  · rename_i hw
    simp only [hw, if_true] at h
    unfold Oper.wpIn at *
    rw [about_put oj w a oi.dst v h1] at h
    refine ⟨h.1, ?_⟩
    have h := h.2
    rw [Oper.semAt_plain F _ _ hdj, execOp_put oj hsj a oi.dst v h1] at h
    rw [Oper.semAt_plain F _ _ hdj]
    generalize (execOp a.eval oj).run P w = r at *
    cases r with
    | ok x w' =>
      cases x <;> simp only [Oper.uponIn] at h ⊢
      case value u => exact ⟨keep a hy u, by rw [← Act.put_comm a v u h2]; exact h⟩
      case skip => exact ⟨keep a hy _, by rw [← Act.put_comm a v undef h2]; exact h⟩
      case defer d =>
        refine ⟨(keepD d).of_same (execOp_put oi hsi _ oj.dst _ h3) (wanted_put oi _ oj.dst _ h3), ?_⟩
        rw [← Act.put_comm _ v undef h2, ← Act.put_defers]
        exact h
      case enter f args =>
        refine ⟨h.1, CallsIn.mono h.2 fun e w'' he => ?_⟩
        cases e with
        | returned u => exact ⟨keep a hy u, by rw [← Act.put_comm a v u h2]; exact he⟩
        | panicked c => exact hQ _ _ _ he
        | outgrown => exact he
      case row row args => exact ⟨h.1, RowsIn.mono h.2 fun u w'' he => ⟨keep a hy u, by rw [← Act.put_comm a v u h2]; exact he⟩⟩
      case round l f tmps assign body =>
        refine ⟨h.1, RoundIn.mono h.2 fun e w'' he => ?_⟩
        cases e with
        | returned u => exact ⟨keep a hy u, by rw [← Act.put_comm a v u h2]; exact he⟩
        | panicked c => exact hQ _ _ _ he
        | outgrown => exact he
    | halt x w' =>
      cases x <;> simp only [Oper.uponIn] at h ⊢
      case panic u => exact hQ _ _ _ h
  · rename_i hw
    simp only [hw] at h
    exact ⟨h.1, keep a hy _, by rw [← Act.put_comm a v undef h2]; exact h.2⟩

theorem need_of {i j : Nat} {listed : Array Bool} (hji : j ≠ i) (hun : listed.getD i true = false) (hj : j ∈ Region.ready .any ops listed) : need ops i j = true := by
  unfold need
  have h1 : Region.waitsFor .any ops j i = false := by
    cases hw : Region.waitsFor .any ops j i with
    | false => rfl
    | true =>
      obtain ⟨oi, hoi, e, he, hb, hon⟩ := Region.waitsFor_spec hw
      obtain ⟨_, o, ho, hall⟩ := mem_ready.1 hj
      obtain rfl : o = oi := Option.some.inj (ho.symm.trans hoi)
      have h2 := hall e he hb
      rw [hon, getD_both hun] at h2
      cases h2
  simp [h1, Ne.symm hji]

theorem wpAnyD_first {i : Nat} {oi : Oper} {v : Value} (hF : ∀ f, F.fn f) (hdef : ∀ (j : Nat) (o : Oper) c, ops[j]? = some o → o.op ≠ .defer c) (hi : ops[i]? = some oi) (hsel : ∀ (j : Nat) (o : Oper) cs b, ops[j]? = some o → o.op ≠ .select cs b)
    (hQ : ∀ c a w, Q (.panic c) (a.put oi.dst v) w → Q (.panic c) a w) (hR : i ∈ R) :
    ∀ (fuel : Nat) (listed : Array Bool) (a : Act) (w : World),
      (∀ j oj, ops[j]? = some oj → j ≠ i → listed.getD j true = false → (∀ e ∈ oj.after, Region.binds .any e = true → e.on ≠ i) → oi.apart ops oj = true) →
      i ∈ Region.ready .any ops listed → D i w → YieldsD P ops (D i) oi v a →
      wpAnyD F n P ops Q R D fuel (listed.setIfInBounds i true) (a.put oi.dst v) w → wpAnyD F n P ops Q R D (fuel + 1) listed a w := by
  intro fuel
  induction fuel with
  | zero =>
    intro listed a w _ hr hD hy H
    refine ⟨fun h => (by rw [h] at hr; cases hr), fun j hj => ?_⟩
    by_cases hji : j = i
    · subst hji; exact hy.wpOpIn hF (fun c => hdef _ _ c hi) hi hD ⟨fun _ _ _ h => h, H⟩
    · have := ready_mono hj hji
      rw [H.1] at this
      cases this
  | succ fuel ih =>
    intro listed a w hfree hr hD hy H
    refine ⟨fun h => (by rw [h] at hr; cases hr), fun j hj => ?_⟩
    by_cases hji : j = i
    · subst hji; exact hy.wpOpIn hF (fun c => hdef _ _ c hi) hi hD ⟨fun _ _ _ h => h, H⟩
    · have h1 := H.2 j (ready_mono hj hji)
      have hun : listed.getD i true = false := (mem_ready.1 hr).1
      have hneed := need_of hji hun hj
      obtain ⟨hjun, oj, hoj, hall⟩ := mem_ready.1 hj
      have hnot : ∀ e ∈ oj.after, Region.binds .any e = true → e.on ≠ i := fun e he hb heq => by
        have h1 := hall e he hb
        rw [heq, getD_both hun] at h1
        cases h1
      have h2 := wpOpIn_putD (fun c => hdef _ _ c hoj) hoj (hfree j oj hoj hji hjun hnot) (fun cs b => hsel i oi cs b hi) (fun cs b => hsel j oj cs b hoj) hQ hy h1
      have hfree' : ∀ k ok, ops[k]? = some ok → k ≠ i → (listed.setIfInBounds j true).getD k true = false →
          (∀ e ∈ ok.after, Region.binds .any e = true → e.on ≠ i) → oi.apart ops ok = true := fun k ok hk hki hun hno => by
        refine hfree k ok hk hki ?_ hno
        by_cases hjk : j = k
        · subst hjk; exact hjun
        · rw [getD_set_ne true hjk] at hun; exact hun
      refine wpOpIn_mono (fun a' w' h3 => ⟨h3.2.1, ih (listed.setIfInBounds j true) a' w' hfree' (ready_mono hr (Ne.symm hji)) (h3.2.1 i hR hneed hD) h3.1 ?_⟩) h2
      rw [Array.setIfInBounds_comm _ _ hji]
      exact h3.2.2

/-- No select, no defer. -/
def plainB (ops : Array Oper) : Bool := Region.noSelect ops && ops.all fun o => match o.op with | .defer _ => false | _ => true
theorem plainB_defer (h : plainB ops = true) (j : Nat) (o : Oper) (c : Call) (hj : ops[j]? = some o) : o.op ≠ .defer c := by
  unfold plainB at h
  rw [Bool.and_eq_true, Array.all_eq_true] at h
  obtain ⟨hlt, he⟩ := Array.getElem?_eq_some_iff.1 hj
  have := h.2 j hlt
  rw [he] at this
  intro hc
  rw [hc] at this
  cases this

/-- A read is taken first. -/
theorem take_ (i : Nat) {oi : Oper} (v : Value) {fuel : Nat} {listed : Array Bool} {a : Act} {w : World} (hF : ∀ f, F.fn f) (hs : plainB ops = true) (hi0 : ops.toList[i]? = some oi)
    (hf : (Region.free .any ops listed i && (Region.ready .any ops listed).contains i && R.contains i) = true)
    (hQ : ∀ c a w, Q (.panic c) (a.put oi.dst v) w → Q (.panic c) a w) (hD : D i w) (hw : Region.wanted oi (yielded ops a.tmps) = true) (hrun : ∀ w, D i w → (execOp a.eval oi).run P w = .ok (.value v) w)
    (h : wpAnyD F n P ops Q R D fuel (listed.setIfInBounds i true) (a.put oi.dst v) w) : wpAnyD F n P ops Q R D (fuel + 1) listed a w := by
  have hi : ops[i]? = some oi := by rw [← Array.getElem?_toList]; exact hi0
  simp only [Bool.and_eq_true] at hf
  have hsel : Region.noSelect ops = true := by
    unfold plainB at hs
    rw [Bool.and_eq_true] at hs
    exact hs.1
  exact wpAnyD_first hF (fun j o c hj => plainB_defer hs j o c hj) hi (Region.noSelect_spec hsel) hQ (by simpa using hf.2) fuel listed a w (Region.free_spec hi hf.1.1) (by simpa using hf.1.2) hD (.inl ⟨hw, hrun⟩) h

theorem wpIn_then {o : Oper} {K : Act → World → Prop} {a : Act} {w : World} (h : o.wpIn F n P a w K (Exit.then K Q)) : o.wpIn F n P a w K Q := by
  unfold Oper.wpIn at *
  refine ⟨h.1, ?_⟩
  have h := h.2
  generalize (o.semAt F.round a.eval).run P w = r at *
  cases r with
  | ok x w' =>
    cases x <;> simp only [Oper.uponIn] at h ⊢
    case value u => exact h
    case skip => exact h
    case defer d => exact h
    case enter f args =>
      refine ⟨h.1, CallsIn.mono h.2 fun e w'' he => ?_⟩
      cases e <;> exact he
    case row row args => exact h
    case round l f tmps assign body =>
      refine ⟨h.1, RoundIn.mono h.2 fun e w'' he => ?_⟩
      cases e <;> exact he
  | halt x w' =>
    cases x <;> simp only [Oper.uponIn] at h ⊢
    case panic u => exact h

/-- An operation that is ready, walked as in a region that draws nothing. -/
theorem one_ (k : Nat) {o : Oper} {fuel : Nat} {listed : Array Bool} {a : Act} {w : World} (ho0 : ops.toList[k]? = some o)
    (h : ∀ K : Act → World → Prop, (∀ a' w', (∀ z ∈ R, need ops z k = true → D z w → D z w') → wpAnyD F n P ops Q R D fuel (listed.setIfInBounds k true) a' w' → K a' w') → wpListIn F n P ops (Exit.then K Q) [o] a w) : wpOpIn F n P ops Q k (fun a' w' => (∀ z ∈ R, need ops z k = true → D z w → D z w') ∧ wpAnyD F n P ops Q R D fuel (listed.setIfInBounds k true) a' w') a w := by
  have ho : ops[k]? = some o := by rw [← Array.getElem?_toList]; exact ho0
  unfold wpOpIn
  rw [ho]
  have h1 := h (fun a' w' => (∀ z ∈ R, need ops z k = true → D z w → D z w') ∧ wpAnyD F n P ops Q R D fuel (listed.setIfInBounds k true) a' w') (fun _ _ h1 h2 => ⟨h1, h2⟩)
  unfold wpListIn at h1
  dsimp only
  by_cases hw : Region.wanted o (yielded ops a.tmps) = true
  · rw [if_pos hw] at h1 ⊢
    exact wpIn_then h1
  · rw [if_neg hw] at h1 ⊢
    exact h1
/-- The one operation that is ready, walked as in a region that draws nothing. -/
theorem only_ (k : Nat) {o : Oper} {fuel : Nat} {listed : Array Bool} {a : Act} {w : World} (hr : Region.ready .any ops listed = [k]) (ho0 : ops.toList[k]? = some o)
    (h : ∀ K : Act → World → Prop, (∀ a' w', (∀ z ∈ R, need ops z k = true → D z w → D z w') → wpAnyD F n P ops Q R D fuel (listed.setIfInBounds k true) a' w' → K a' w') → wpListIn F n P ops (Exit.then K Q) [o] a w) : wpAnyD F n P ops Q R D (fuel + 1) listed a w := by
  refine ⟨fun h0 => (by rw [hr] at h0; cases h0), fun i hi => ?_⟩
  rw [hr] at hi
  obtain rfl := List.mem_singleton.1 hi
  exact one_ i ho0 h
/-- One of the two operations that are ready. -/
theorem either_ (k j : Nat) {o p : Oper} {fuel : Nat} {listed : Array Bool} {a : Act} {w : World} (hr : Region.ready .any ops listed = [k, j]) (ho0 : ops.toList[k]? = some o) (hp0 : ops.toList[j]? = some p)
    (h1 : ∀ K : Act → World → Prop, (∀ a' w', (∀ z ∈ R, need ops z k = true → D z w → D z w') → wpAnyD F n P ops Q R D fuel (listed.setIfInBounds k true) a' w' → K a' w') → wpListIn F n P ops (Exit.then K Q) [o] a w)
    (h2 : ∀ K : Act → World → Prop, (∀ a' w', (∀ z ∈ R, need ops z j = true → D z w → D z w') → wpAnyD F n P ops Q R D fuel (listed.setIfInBounds j true) a' w' → K a' w') → wpListIn F n P ops (Exit.then K Q) [p] a w) : wpAnyD F n P ops Q R D (fuel + 1) listed a w := by
  refine ⟨fun h0 => (by rw [hr] at h0; cases h0), fun i hi => ?_⟩
  rw [hr] at hi
  rcases List.mem_cons.1 hi with rfl | hi
  · exact one_ i ho0 h1
  · obtain rfl := List.mem_singleton.1 hi
    exact one_ i hp0 h2

theorem done_ {fuel : Nat} {listed : Array Bool} {a : Act} {w : World} (hr : Region.ready .any ops listed = []) (h : Q .normal a w) : wpAnyD F n P ops Q R D fuel listed a w := by
  cases fuel with
  | zero => exact ⟨hr, h⟩
  | succ fuel => exact ⟨fun _ => h, by rw [hr]; simp⟩

/-- **The region.** -/
theorem region_ (R : List Nat) (D : Nat → World → Prop) (k : Nat) {id : Nat} {a : Act} {w : World} (hm : P.follows .mixedOrders = true) (hk : ops.size = k)
    (h : wpAnyD F n P ops Q R D k (Array.replicate k false) a w.drew) : (Code.region id ops true).wpIn F n P Q a w := by
  subst hk
  exact wpIn_region_any hm (wpAnyIn_of_D _ _ _ _ h)
end
end Go.HeldI
