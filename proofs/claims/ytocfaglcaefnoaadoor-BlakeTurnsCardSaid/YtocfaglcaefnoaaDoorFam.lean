/- A REGION THAT DRAWS ITS ORDER, WALKED ONCE IN THE ORDER OF THE TEXT, though some of its operations write: the writing ones (E) wait for each other in a chain; C m holds of every world in which the first m of them have been carried out; each other operation yields one value in every such world in which it may come up. -/
import Derived.Still
import Derived.StillTail
import Derived.Deep.Quiet
import Derived.WalkKit
namespace Go.Fam
section
variable {P : Program} {ops : Array Oper} {C : Nat → World → Prop} {E : List Nat}

def effUpon (P : Program) (C' : World → Prop) (v : Value) : Result Next → Prop
  | .ok (.value u) w' => C' w' ∧ u = v
  | .ok .skip w' => C' w' ∧ v = undef
  | .ok (.enter f args) w' => Calls P f args w' (fun e w'' => e = .returned v ∧ C' w'')
  | _ => False

def posOf : List Nat → Nat → Nat → Option Nat
  | [], _, _ => none
  | e :: r, k, i => if e = i then some k else posOf r (k + 1) i
theorem posOf_some : ∀ {E : List Nat} {s i k : Nat}, posOf E s i = some k → s ≤ k ∧ E[k - s]? = some i
  | [], _, _, _, h => by simp [posOf] at h
  | e :: r, s, i, k, h => by
    unfold posOf at h
    split at h
    · rename_i he
      have : s = k := by simpa using h
      subst this
      simp [he]
    · obtain ⟨h1, h2⟩ := posOf_some h
      refine ⟨by omega, ?_⟩
      rw [show k - s = (k - (s + 1)) + 1 by omega, List.getElem?_cons_succ]
      exact h2
theorem posOf_none : ∀ {E : List Nat} {s i : Nat}, posOf E s i = none → i ∉ E
  | [], _, _, _ => by simp
  | e :: r, s, i, h => by
    unfold posOf at h
    split at h
    · cases h
    · rename_i hne
      have := posOf_none h
      simp [this]
      exact fun h => hne h.symm

/-- May number i come up when m of E have? -/
def inR (ops : Array Oper) (E : List Nat) (i m : Nat) : Bool :=
  (List.range E.length).all fun k => (!(Region.waitsFor .any ops i (E.getD k 0)) || decide (k < m)) && (!(Region.waitsFor .any ops (E.getD k 0) i) || decide (m ≤ k))

/-- E is a chain of numbers that rise. -/
def chainE (ops : Array Oper) (E : List Nat) : Bool :=
  (List.range E.length).all fun k => decide (E.getD k 0 < ops.size) && (k == 0 || (decide (E.getD (k - 1) 0 < E.getD k 0) && Region.waitsFor .any ops (E.getD k 0) (E.getD (k - 1) 0)))

def Yields (P : Program) (ops : Array Oper) (C : Nat → World → Prop) (E : List Nat) (i : Nat) (o : Oper) (v : Value) (a : Act) : Prop :=
  (Region.wanted o (yielded ops a.tmps) = true ∧ match posOf E 0 i with
    | some k => ∀ w, C k w → effUpon P (C (k + 1)) v ((execOp a.eval o).run P w)
    | none => ∀ m, inR ops E i m = true → ∀ w, C m w → o.quietAt P a (C m) w v)
  ∨ (Region.wanted o (yielded ops a.tmps) = false ∧ v = undef ∧ posOf E 0 i = none)

def stepM (E : List Nat) (i m : Nat) : Nat := if (posOf E 0 i).isSome then m + 1 else m

def mOp (P : Program) (ops : Array Oper) (C : Nat → World → Prop) (E : List Nat) (i : Nat) (K : Nat → Act → Prop) (m : Nat) (a : Act) : Prop :=
  match ops[i]? with
  | none => K m a
  | some o => ∃ v, Yields P ops C E i o v a ∧ K (stepM E i m) (a.put o.dst v)

theorem mOp_mono {i m : Nat} {a : Act} {K K' : Nat → Act → Prop} (h : ∀ m a, K m a → K' m a) (hh : mOp P ops C E i K m a) : mOp P ops C E i K' m a := by
  unfold mOp at *
  split
  · rename_i ho; simp only [ho] at hh; exact h _ _ hh
  · rename_i o ho
    simp only [ho] at hh
    obtain ⟨v, h1, h2⟩ := hh
    exact ⟨v, h1, h _ _ h2⟩

def wpAnyM (P : Program) (ops : Array Oper) (C : Nat → World → Prop) (E : List Nat) (Q : Nat → Act → Prop) : Nat → Array Bool → Nat → Act → Prop
  | 0, listed, m, a => Region.ready .any ops listed = [] ∧ Q m a
  | fuel + 1, listed, m, a =>
    (Region.ready .any ops listed = [] → Q m a) ∧
    ∀ i ∈ Region.ready .any ops listed, mOp P ops C E i (wpAnyM P ops C E Q fuel (listed.setIfInBounds i true)) m a

structure Inv (ops : Array Oper) (E : List Nat) (listed : Array Bool) (m : Nat) : Prop where
  size : listed.size = ops.size
  closed : ∀ j oj, ops[j]? = some oj → listed.getD j false = true → ∀ e ∈ oj.after, Region.binds .any e = true → listed.getD e.on false = true
  eff : ∀ k j, E[k]? = some j → (listed.getD j false = true ↔ k < m)

theorem chainE_lt (h : chainE ops E = true) {k j : Nat} (hj : E[k]? = some j) : j < ops.size := by
  have hk := (List.getElem?_eq_some_iff.1 hj).1
  have h1 := List.all_eq_true.1 h k (List.mem_range.2 hk)
  simp only [Bool.and_eq_true, decide_eq_true_eq] at h1
  have h2 := h1.1
  rw [List.getD_eq_getElem?_getD, hj] at h2
  exact h2
theorem chainE_wait (h : chainE ops E = true) {k i j : Nat} (hi : E[k]? = some i) (hj : E[k + 1]? = some j) : i < j ∧ Region.waitsFor .any ops j i = true := by
  have hk := (List.getElem?_eq_some_iff.1 hj).1
  have h1 := List.all_eq_true.1 h (k + 1) (List.mem_range.2 hk)
  simp only [Bool.and_eq_true, Bool.or_eq_true, decide_eq_true_eq, beq_iff_eq] at h1
  have h2 := h1.2.resolve_left (by omega)
  rw [Nat.add_sub_cancel, List.getD_eq_getElem?_getD, List.getD_eq_getElem?_getD, hi, hj] at h2
  exact h2
theorem chainE_mono (h : chainE ops E = true) : ∀ (d : Nat) {k i j : Nat}, E[k]? = some i → E[k + d + 1]? = some j → i < j
  | 0, _, _, _, hi, hj => (chainE_wait h hi hj).1
  | d + 1, k, i, j, hi, hj => by
    have hk := (List.getElem?_eq_some_iff.1 hj).1
    obtain ⟨x, hx⟩ : ∃ x, E[k + d + 1]? = some x := ⟨_, List.getElem?_eq_getElem (by omega)⟩
    exact Nat.lt_trans (chainE_mono h d hi hx) (chainE_wait h hx hj).1
theorem chainE_inj (h : chainE ops E = true) {k k' i : Nat} (hi : E[k]? = some i) (hj : E[k']? = some i) : k = k' := by
  rcases Nat.lt_trichotomy k k' with hlt | he | hlt
  · have := chainE_mono h (k' - k - 1) hi (by rw [show k + (k' - k - 1) + 1 = k' by omega]; exact hj)
    omega
  · exact he
  · have := chainE_mono h (k - k' - 1) hj (by rw [show k' + (k - k' - 1) + 1 = k by omega]; exact hi)
    omega

theorem waits_listed {i j : Nat} {listed : Array Bool} (hw : Region.waitsFor .any ops i j = true) (hr : i ∈ Region.ready .any ops listed) : listed.getD j false = true := by
  obtain ⟨oi, hoi, e, he, hb, hon⟩ := Region.waitsFor_spec hw
  obtain ⟨_, o, ho, hall⟩ := mem_ready.1 hr
  obtain rfl : o = oi := Option.some.inj (ho.symm.trans hoi)
  rw [← hon]
  exact hall e he hb

theorem Inv.pos {listed : Array Bool} {m i k : Nat} (hc : chainE ops E = true) (inv : Inv ops E listed m) (hr : i ∈ Region.ready .any ops listed) (hp : posOf E 0 i = some k) : k = m := by
  obtain ⟨_, hk⟩ := posOf_some hp
  rw [Nat.sub_zero] at hk
  have hun := getD_both (mem_ready.1 hr).1
  have h1 : ¬ k < m := fun hlt => by
    rw [(inv.eff k i hk).2 hlt] at hun
    cases hun
  cases k with
  | zero => omega
  | succ k =>
    obtain ⟨x, hx⟩ : ∃ x, E[k]? = some x := ⟨_, List.getElem?_eq_getElem (by have := (List.getElem?_eq_some_iff.1 hk).1; omega)⟩
    have h2 := waits_listed (chainE_wait hc hx hk).2 hr
    have := (inv.eff k x hx).1 h2
    omega

theorem Inv.inR {listed : Array Bool} {m i : Nat} (inv : Inv ops E listed m) (hr : i ∈ Region.ready .any ops listed) : Fam.inR ops E i m = true := by
  refine List.all_eq_true.2 fun k hk => ?_
  have hk := List.mem_range.1 hk
  have hj : E[k]? = some E[k] := List.getElem?_eq_getElem hk
  have hg : E.getD k 0 = E[k] := by rw [List.getD_eq_getElem?_getD, hj]; rfl
  rw [hg]
  simp only [Bool.and_eq_true, Bool.or_eq_true, Bool.not_eq_true', decide_eq_true_eq]
  refine ⟨?_, ?_⟩
  · cases h : Region.waitsFor .any ops i E[k] with
    | false => exact .inl rfl
    | true => exact .inr ((inv.eff k _ hj).1 (waits_listed h hr))
  · cases h : Region.waitsFor .any ops E[k] i with
    | false => exact .inl rfl
    | true =>
      refine .inr (Nat.le_of_not_lt fun hlt => ?_)
      obtain ⟨oj, hoj, e, he, hb, hon⟩ := Region.waitsFor_spec h
      have h1 := inv.closed _ oj hoj ((inv.eff k _ hj).2 hlt) e he hb
      rw [hon, getD_both (mem_ready.1 hr).1] at h1
      cases h1

theorem inR_le {i m : Nat} (h : Fam.inR ops E i m = true) (k : Nat) (hk : k < E.length) (hw : Region.waitsFor .any ops (E.getD k 0) i = true) : m ≤ k := by
  have h1 := List.all_eq_true.1 h k (List.mem_range.2 hk)
  simp only [Bool.and_eq_true, Bool.or_eq_true, Bool.not_eq_true', decide_eq_true_eq] at h1
  rcases h1.2 with h2 | h2
  · rw [hw] at h2; cases h2
  · exact h2
theorem inR_ge {i m : Nat} (h : Fam.inR ops E i m = true) (k : Nat) (hk : k < E.length) (hw : Region.waitsFor .any ops i (E.getD k 0) = true) : k < m := by
  have h1 := List.all_eq_true.1 h k (List.mem_range.2 hk)
  simp only [Bool.and_eq_true, Bool.or_eq_true, Bool.not_eq_true', decide_eq_true_eq] at h1
  rcases h1.1 with h2 | h2
  · rw [hw] at h2; cases h2
  · exact h2

theorem Inv.step {listed : Array Bool} {m i : Nat} (hc : chainE ops E = true) (inv : Inv ops E listed m) (hr : i ∈ Region.ready .any ops listed) : Inv ops E (listed.setIfInBounds i true) (stepM E i m) := by
  obtain ⟨hun, oi, hoi, hall⟩ := mem_ready.1 hr
  have hil : i < listed.size := by rw [inv.size]; exact (Array.getElem?_eq_some_iff.1 hoi).1
  refine ⟨by simp [inv.size], fun j oj hj hl e he hb => ?_, fun k j hj => ?_⟩
  · by_cases hij : i = j
    · subst hij
      obtain rfl : oj = oi := Option.some.inj (hj.symm.trans hoi)
      exact getD_set_true (hall e he hb)
    · rw [getD_set_ne false hij] at hl
      exact getD_set_true (inv.closed j oj hj hl e he hb)
  · unfold stepM
    cases hp : posOf E 0 i with
    | some k' =>
      have hkm := inv.pos hc hr hp
      subst hkm
      obtain ⟨_, hk'⟩ := posOf_some hp
      rw [Nat.sub_zero] at hk'
      simp only [Option.isSome_some, if_true]
      by_cases hij : i = j
      · subst hij
        have := chainE_inj hc hj hk'
        subst this
        simp [hil]
      · rw [getD_set_ne false hij, inv.eff k j hj]
        have : k ≠ k' := fun h => hij (by rw [h] at hj; exact Option.some.inj (hk'.symm.trans hj))
        omega
    | none =>
      have hn := posOf_none hp
      have hij : i ≠ j := fun h => hn (h ▸ List.mem_of_getElem? hj)
      simp only [Option.isSome_none, Bool.false_eq_true, if_false]
      rw [getD_set_ne false hij]
      exact inv.eff k j hj

theorem wp_of_quietAt {o : Oper} {a : Act} {D : World → Prop} {v : Value} {K' : Act → World → Prop} {Q' : Exit → Act → World → Prop} {w : World} (hD : D w) (h3 : o.quietAt P a D w v) (hK : ∀ w', D w' → K' (a.put o.dst v) w') : o.wp P a w K' Q' := by
  unfold Oper.quietAt at h3
  unfold Oper.wp
  generalize (execOp a.eval o).run P w = r at *
  cases r with
  | ok n w' =>
    cases n <;> simp only [Oper.quietUpon] at h3 <;> simp only [Oper.upon]
    case value u =>
      obtain ⟨e1, e2⟩ := h3
      rw [e1, e2]
      exact hK _ hD
    case skip =>
      obtain ⟨e1, e2⟩ := h3
      rw [e1, ← e2]
      exact hK _ hD
    case enter f args =>
      obtain ⟨e1, hc⟩ := h3
      rw [e1]
      exact hc.mono fun e w'' ⟨he, hw''⟩ => by subst he; exact hK _ hw''
  | halt x w' => simp only [Oper.quietUpon] at h3

theorem wp_of_effUpon {o : Oper} {a : Act} {D : World → Prop} {v : Value} {K' : Act → World → Prop} {Q' : Exit → Act → World → Prop} {w : World} (h3 : effUpon P D v ((execOp a.eval o).run P w)) (hK : ∀ w', D w' → K' (a.put o.dst v) w') : o.wp P a w K' Q' := by
  unfold Oper.wp
  generalize (execOp a.eval o).run P w = r at *
  cases r with
  | ok n w' =>
    cases n <;> simp only [effUpon] at h3 <;> simp only [Oper.upon]
    case value u =>
      obtain ⟨e1, e2⟩ := h3
      rw [e2]
      exact hK _ e1
    case skip =>
      obtain ⟨e1, e2⟩ := h3
      rw [← e2]
      exact hK _ e1
    case enter f args =>
      exact h3.mono fun e w'' ⟨he, hw''⟩ => by subst he; exact hK _ hw''
  | halt x w' => simp only [effUpon] at h3

theorem wpOp_of_mOp {i m : Nat} {a : Act} {K : Nat → Act → Prop} {K' : Act → World → Prop} {Q' : Exit → Act → World → Prop} {w : World} {listed : Array Bool} (hc : chainE ops E = true) (inv : Inv ops E listed m) (hr : i ∈ Region.ready .any ops listed)
    (hC : C m w) (h : ∀ a w', C (stepM E i m) w' → K (stepM E i m) a → K' a w') (hh : mOp P ops C E i K m a) : wpOp P ops Q' i K' a w := by
  unfold mOp at hh
  obtain ⟨_, o, ho, _⟩ := mem_ready.1 hr
  simp only [ho] at hh
  obtain ⟨v, hy, hK⟩ := hh
  unfold wpOp
  simp only [ho]
  rcases hy with ⟨hw, hy⟩ | ⟨hw, rfl, hp⟩
  · simp only [hw, if_true]
    refine .inl ?_
    cases hp : posOf E 0 i with
    | some k =>
      have hkm := inv.pos hc hr hp
      subst hkm
      simp only [hp] at hy
      have hs : stepM E i k = k + 1 := by simp [stepM, hp]
      rw [hs] at h hK
      exact wp_of_effUpon (hy w hC) fun w' hw' => h _ _ hw' hK
    | none =>
      simp only [hp] at hy
      have hs : stepM E i m = m := by simp [stepM, hp]
      rw [hs] at h hK
      exact wp_of_quietAt hC (hy m (inv.inR hr) w hC) fun w' hw' => h _ _ hw' hK
  · have hs : stepM E i m = m := by simp [stepM, hp]
    rw [hs] at h hK
    simp only [hw, Bool.false_eq_true, if_false]
    exact h _ _ hC hK

/-- It is a wpAny. -/
theorem wpAny_of_M {Q : Nat → Act → Prop} {Q' : Exit → Act → World → Prop} (hc : chainE ops E = true) (hQ : ∀ m a w, C m w → Q m a → Q' .normal a w) : ∀ (fuel : Nat) (listed : Array Bool) (m : Nat) (a : Act) (w : World), Inv ops E listed m → C m w →
    wpAnyM P ops C E Q fuel listed m a → wpAny P .any ops Q' fuel listed a w
  | 0, _, _, _, _, _, hw, h => ⟨h.1, hQ _ _ _ hw h.2⟩
  | fuel + 1, _, _, _, _, inv, hw, h => ⟨fun h0 => hQ _ _ _ hw (h.1 h0), fun i hi => wpOp_of_mOp hc inv hi hw (fun a' w' hw' => wpAny_of_M hc hQ fuel _ _ a' w' (inv.step hc hi) hw') (h.2 i hi)⟩

theorem Yields.put {i : Nat} {o : Oper} {v : Value} {a : Act} {dst : Option Tmp} {u : Value} (hs : ∀ cs b, o.op ≠ .select cs b) (h : ∀ d, dst = some d → d ∉ o.looksAt ops) : Yields P ops C E i o v (a.put dst u) ↔ Yields P ops C E i o v a := by
  unfold Yields Oper.quietAt
  rw [execOp_put o hs a dst u h, wanted_put o a dst u h]

/-- One operation 'oj', apart from 'oi'. -/
theorem mOp_put {i j m : Nat} {oi oj : Oper} {v : Value} (hj : ops[j]? = some oj) (hap : oi.apart ops oj = true)
    (hsi : ∀ cs b, oi.op ≠ .select cs b) (hsj : ∀ cs b, oj.op ≠ .select cs b) {K : Nat → Act → Prop} {a : Act}
    (hy : Yields P ops C E i oi v a) (h : mOp P ops C E j K (stepM E i m) (a.put oi.dst v)) :
    mOp P ops C E j (fun m' a' => Yields P ops C E i oi v a' ∧ K (stepM E i m') (a'.put oi.dst v)) m a := by
  obtain ⟨h1, h2, h3⟩ := Oper.apart_spec hap
  unfold mOp at *
  simp only [hj] at *
  obtain ⟨u, hu, hK⟩ := h
  refine ⟨u, (Yields.put hsj h1).1 hu, (Yields.put hsi h3).2 hy, ?_⟩
  rw [← Act.put_comm a v u h2]
  have hs : stepM E j (stepM E i m) = stepM E i (stepM E j m) := by
    unfold stepM
    split <;> split <;> rfl
  rw [← hs]
  exact hK

theorem wpAnyM_first {Q : Nat → Act → Prop} {i : Nat} {oi : Oper} {v : Value} (hi : ops[i]? = some oi) (hsel : ∀ (j : Nat) (o : Oper) cs b, ops[j]? = some o → o.op ≠ .select cs b) :
    ∀ (fuel : Nat) (listed : Array Bool) (m : Nat) (a : Act),
      (∀ j oj, ops[j]? = some oj → j ≠ i → listed.getD j true = false → (∀ e ∈ oj.after, Region.binds .any e = true → e.on ≠ i) → oi.apart ops oj = true) →
      i ∈ Region.ready .any ops listed → Yields P ops C E i oi v a →
      wpAnyM P ops C E Q fuel (listed.setIfInBounds i true) (stepM E i m) (a.put oi.dst v) → wpAnyM P ops C E Q (fuel + 1) listed m a := by
  intro fuel
  have self : ∀ (f : Nat) (listed : Array Bool) (m : Nat) (a : Act), Yields P ops C E i oi v a → wpAnyM P ops C E Q f (listed.setIfInBounds i true) (stepM E i m) (a.put oi.dst v) → mOp P ops C E i (wpAnyM P ops C E Q f (listed.setIfInBounds i true)) m a := fun f listed m a hy H => by
    unfold mOp
    simp only [hi]
    exact ⟨v, hy, H⟩
  induction fuel with
  | zero =>
    intro listed m a _ hr hy H
    refine ⟨fun h => (by rw [h] at hr; cases hr), fun j hj => ?_⟩
    by_cases hji : j = i
    · subst hji; exact self 0 listed m a hy H
    · have := ready_mono hj hji
      rw [H.1] at this
      cases this
  | succ fuel ih =>
    intro listed m a hfree hr hy H
    refine ⟨fun h => (by rw [h] at hr; cases hr), fun j hj => ?_⟩
    by_cases hji : j = i
    · subst hji; exact self _ listed m a hy H
    · have h1 := H.2 j (ready_mono hj hji)
      obtain ⟨hjun, oj, hoj, hall⟩ := mem_ready.1 hj
      have hnot : ∀ e ∈ oj.after, Region.binds .any e = true → e.on ≠ i := fun e he hb heq => by
        have h1 := hall e he hb
        rw [heq, getD_both (mem_ready.1 hr).1] at h1
        cases h1
      have h2 := mOp_put hoj (hfree j oj hoj hji hjun hnot) (fun cs b => hsel i oi cs b hi) (fun cs b => hsel j oj cs b hoj) hy h1
      have hfree' : ∀ k ok, ops[k]? = some ok → k ≠ i → (listed.setIfInBounds j true).getD k true = false →
          (∀ e ∈ ok.after, Region.binds .any e = true → e.on ≠ i) → oi.apart ops ok = true := fun k ok hk hki hun hno => by
        refine hfree k ok hk hki ?_ hno
        by_cases hjk : j = k
        · subst hjk; exact hjun
        · rw [getD_set_ne true hjk] at hun; exact hun
      refine mOp_mono (fun m' a' h3 => ih (listed.setIfInBounds j true) m' a' hfree' (ready_mono hr (Ne.symm hji)) h3.1 ?_) h2
      rw [Array.setIfInBounds_comm _ _ hji]
      exact h3.2

/-- The walk in the text's order: number k is next, m of E are done. -/
def wpNat (P : Program) (ops : Array Oper) (C : Nat → World → Prop) (E : List Nat) (Q : Nat → Act → Prop) : Nat → Nat → List Oper → Act → Prop
  | _, m, [], a => Q m a
  | k, m, o :: rest, a => ∃ v, Yields P ops C E k o v a ∧ wpNat P ops C E Q (k + 1) (stepM E k m) rest (a.put o.dst v)

theorem wpAnyM_lex {Q : Nat → Act → Prop} (hs : Region.noSelect ops = true) : ∀ (l : List Oper) (k m : Nat) (listed : Array Bool) (a : Act), (∀ j, l[j]? = ops[k + j]?) →
    Region.lexFrom .any ops l.length k listed = true → wpNat P ops C E Q k m l a → wpAnyM P ops C E Q l.length listed m a
  | [], _, _, _, _, _, hB, h => ⟨by simpa [Region.lexFrom] using hB, h⟩
  | o :: l, k, m, listed, a, hl, hB, h => by
    have h0 : ops[k]? = some o := by simpa using (hl 0).symm
    simp only [List.length_cons, Region.lexFrom, Bool.and_eq_true] at hB
    obtain ⟨⟨hr, hf⟩, hB'⟩ := hB
    obtain ⟨v, hy, hK⟩ := h
    exact wpAnyM_first h0 (Region.noSelect_spec hs) l.length listed m a (Region.free_spec h0 hf) (by simpa using hr) hy
      (wpAnyM_lex hs l (k + 1) _ _ _ (fun j => by have := hl (j + 1); simpa [Nat.add_assoc, Nat.add_comm 1 j] using this) hB' hK)

def famB (ops : Array Oper) (E : List Nat) : Bool := Region.lexB .any ops && chainE ops E && decide (∀ i ∈ E, i < ops.size)

theorem inv_zero : Inv ops E (Array.replicate ops.size false) 0 :=
  ⟨by simp, (fun j oj _ hl => by rw [getD_replicate_false] at hl; cases hl), (fun k j _ => by rw [getD_replicate_false]; simp)⟩

/-- **A region that draws its order, walked once in the text's order.** -/
theorem wp_region_fam {id : Nat} {l : List Oper} {Q : Exit → Act → World → Prop} {a : Act} {w : World} (E : List Nat) (C : Nat → World → Prop) (hm : P.follows .mixedOrders = true) (hB : famB l.toArray E = true) (h0 : C 0 w.drew)
    (h : wpNat P l.toArray C E (fun m a' => ∀ w', C m w' → Q .normal a' w') 0 0 l a) : (Code.region id l.toArray true).wp P Q a w := by
  simp only [famB, Region.lexB, Bool.and_eq_true] at hB
  obtain ⟨⟨⟨hs, hlex⟩, hc⟩, _⟩ := hB
  refine wp_region_any hm (wpAny_of_M hc (Q := fun m a' => ∀ w', C m w' → Q .normal a' w') (fun m a' w' hw' h => h w' hw') _ _ 0 _ _ inv_zero h0 ?_)
  have := wpAnyM_lex (C := C) (E := E) (m := 0) hs l 0 (Array.replicate l.toArray.size false) a (by simp) (by simpa using hlex) h
  simpa using this

/-! ### One step of it -/
section
variable {Q : Nat → Act → Prop} {k m : Nat} {o : Oper} {rest : List Oper} {a : Act}
theorem nil_ (h : Q m a) : wpNat P ops C E Q k m [] a := h
/-- It yields v whatever the world. -/
theorem any_ (v : Value) (hw : Region.wanted o (yielded ops a.tmps) = true) (hp : posOf E 0 k = none) (hrun : ∀ w, (execOp a.eval o).run P w = .ok (.value v) w)
    (h : wpNat P ops C E Q (k + 1) m rest (a.put o.dst v)) : wpNat P ops C E Q k m (o :: rest) a :=
  ⟨v, .inl ⟨hw, by rw [hp]; intro m' _ w _; unfold Oper.quietAt; rw [hrun w]; exact ⟨rfl, rfl⟩⟩, by unfold stepM; rw [hp]; exact h⟩
/-- It is not carried out. -/
theorem off_ (hw : Region.wanted o (yielded ops a.tmps) = false) (hp : posOf E 0 k = none)
    (h : wpNat P ops C E Q (k + 1) m rest (a.put o.dst undef)) : wpNat P ops C E Q k m (o :: rest) a :=
  ⟨undef, .inr ⟨hw, rfl, hp⟩, by unfold stepM; rw [hp]; exact h⟩
/-- It yields v in every world of the family in which it may come up. -/
theorem read_ (v : Value) (hw : Region.wanted o (yielded ops a.tmps) = true) (hp : posOf E 0 k = none) (hrun : ∀ m', inR ops E k m' = true → ∀ w, C m' w → (execOp a.eval o).run P w = .ok (.value v) w)
    (h : wpNat P ops C E Q (k + 1) m rest (a.put o.dst v)) : wpNat P ops C E Q k m (o :: rest) a :=
  ⟨v, .inl ⟨hw, by rw [hp]; intro m' hm' w hw'; unfold Oper.quietAt; rw [hrun m' hm' w hw']; exact ⟨rfl, rfl⟩⟩, by unfold stepM; rw [hp]; exact h⟩
/-- A call that leaves the family's world where it was. -/
theorem call_ (v : Value) (f : FuncId) (args : Array Value) (hw : Region.wanted o (yielded ops a.tmps) = true) (hp : posOf E 0 k = none) (hrun : ∀ w, (execOp a.eval o).run P w = .ok (.enter f args) w)
    (hcall : ∀ m', inR ops E k m' = true → ∀ w, C m' w → Calls P f args w fun e w' => e = .returned v ∧ C m' w')
    (h : wpNat P ops C E Q (k + 1) m rest (a.put o.dst v)) : wpNat P ops C E Q k m (o :: rest) a :=
  ⟨v, .inl ⟨hw, by rw [hp]; intro m' hm' w hw'; unfold Oper.quietAt; rw [hrun w]; exact ⟨rfl, hcall m' hm' w hw'⟩⟩, by unfold stepM; rw [hp]; exact h⟩
/-- One of E that yields v. -/
theorem eff_ (v : Value) (hw : Region.wanted o (yielded ops a.tmps) = true) (hp : posOf E 0 k = some m) (hrun : ∀ w, C m w → ∃ w', (execOp a.eval o).run P w = .ok (.value v) w' ∧ C (m + 1) w')
    (h : wpNat P ops C E Q (k + 1) (m + 1) rest (a.put o.dst v)) : wpNat P ops C E Q k m (o :: rest) a :=
  ⟨v, .inl ⟨hw, by rw [hp]; intro w hw'; obtain ⟨w', h1, h2⟩ := hrun w hw'; rw [h1]; exact ⟨h2, rfl⟩⟩, by unfold stepM; rw [hp]; exact h⟩
/-- One of E that is a store. -/
theorem store_ (hw : Region.wanted o (yielded ops a.tmps) = true) (hp : posOf E 0 k = some m) (hrun : ∀ w, C m w → ∃ w', (execOp a.eval o).run P w = .ok .skip w' ∧ C (m + 1) w')
    (h : wpNat P ops C E Q (k + 1) (m + 1) rest (a.put o.dst undef)) : wpNat P ops C E Q k m (o :: rest) a :=
  ⟨undef, .inl ⟨hw, by rw [hp]; intro w hw'; obtain ⟨w', h1, h2⟩ := hrun w hw'; rw [h1]; exact ⟨h2, rfl⟩⟩, by unfold stepM; rw [hp]; exact h⟩
/-- One of E that is a call. -/
theorem effCall_ (v : Value) (f : FuncId) (args : Array Value) (hw : Region.wanted o (yielded ops a.tmps) = true) (hp : posOf E 0 k = some m) (hrun : ∀ w, (execOp a.eval o).run P w = .ok (.enter f args) w)
    (hcall : ∀ w, C m w → Calls P f args w fun e w' => e = .returned v ∧ C (m + 1) w')
    (h : wpNat P ops C E Q (k + 1) (m + 1) rest (a.put o.dst v)) : wpNat P ops C E Q k m (o :: rest) a :=
  ⟨v, .inl ⟨hw, by rw [hp]; intro w hw'; rw [hrun w]; exact hcall w hw'⟩, by unfold stepM; rw [hp]; exact h⟩
end
/-! ### Plain operations by the kit's own step ('go_big_quiet_op') -/
def plainOp : Op → Bool
  | .move _ | .assign _ | .pick _ _ _ | .build _ _ | .binOp _ _ _ _ _ | .unOp _ _ _ | .convert _ _ _ | .makeFunc _ _ _ | .makeInterface _ _ | .slice _ _ _ _ _ | .fieldAddr _ _ _ | .field _ _ _ | .indexAddr _ _ _ | .index _ _ _ | .extract _ _ => true
  | _ => false
theorem run_valued {s : Sem Value} {w w' : World} {n : Next} (h : (do let v ← s; pure (.value v) : Sem Next).run P w = .ok n w') : ∃ x, n = .value x := by
  rw [Sem.run_bind] at h
  cases hs : s.run P w with
  | ok v w1 =>
    rw [hs] at h
    simp [Result.andThen, Sem.run_pure] at h
    exact ⟨v, h.1.symm⟩
  | halt x w1 =>
    rw [hs] at h
    simp [Result.andThen] at h
theorem run_plain {o : Oper} {ρ : Operand → Value} {w w' : World} {n : Next} (hp : plainOp o.op = true) (h : (execOp ρ o).run P w = .ok n w') : ∃ x, n = .value x := by
  obtain ⟨dst, op, type, pos, after, guard⟩ := o
  cases op <;> simp only [plainOp] at hp <;> first
    | (cases hp; done)
    | (simp only [execOp] at h; exact run_valued h)
    | (simp only [execOp, Sem.run_pure] at h; injection h with h1 h2; exact ⟨_, h1.symm⟩)
    | skip
  case pick c x y =>
    simp only [execOp] at h
    rw [Sem.run_bind] at h
    cases hs : (asBool (ρ c)).run P w with
    | ok v w1 =>
      rw [hs] at h
      simp [Result.andThen, Sem.run_pure] at h
      exact ⟨_, h.1.symm⟩
    | halt x w1 =>
      rw [hs] at h
      simp [Result.andThen] at h
section
variable {Q : Nat → Act → Prop} {k m : Nat} {o : Oper} {rest : List Oper} {a : Act}
theorem pure_ (hw : Region.wanted o (yielded ops a.tmps) = true) (hp : posOf E 0 k = none) (hpl : plainOp o.op = true)
    (h : ∀ K : Act → Prop, (∀ a, wpNat P ops C E Q (k + 1) m rest a → K a) → o.quiet P a (fun _ => True) K) : wpNat P ops C E Q k m (o :: rest) a := by
  obtain ⟨v, h1, h2⟩ := h _ (fun _ h => h)
  refine read_ v hw hp (fun m' _ w _ => ?_) h2
  have h3 := h1 w trivial
  unfold Oper.quietAt at h3
  cases hr : (execOp a.eval o).run P w with
  | ok n w' =>
    obtain ⟨x, rfl⟩ := run_plain hpl hr
    rw [hr] at h3
    simp only [Oper.quietUpon] at h3
    rw [h3.1, h3.2]
  | halt x w' =>
    rw [hr] at h3
    simp only [Oper.quietUpon] at h3
end
end
end Go.Fam
