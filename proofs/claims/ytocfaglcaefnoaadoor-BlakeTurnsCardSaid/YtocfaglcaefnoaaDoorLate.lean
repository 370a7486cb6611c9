/- A REGION THAT DRAWS ITS ORDER, WALKED ONCE IN THE TEXT's ORDER, WHERE ONE OPERATION's VALUE IS KNOWN ONLY WHEN IT COMES UP (an allocation's address: it hangs on what allocated ahead of it): Fam's theorem once more; all operations behind that one in the text wait for it. -/
import Derived.Test.YtocfaglcaefnoaaDoorFam
set_option linter.unusedVariables false
set_option linter.unusedSimpArgs false
namespace Go.Late
open Go.Fam

section
variable {P : Program} {ops : Array Oper} {C : Nat → Option Value → World → Prop} {E : List Nat} {L : Nat}

/-- May number i come up where the late one has (ov is some) or has not? -/
def inL (ops : Array Oper) (L i : Nat) (ov : Option Value) : Bool :=
  (!(Region.waitsFor .any ops i L) || ov.isSome) && (!(Region.waitsFor .any ops L i) || ov.isNone)
theorem inL_some {i : Nat} {ov : Option Value} (h : inL ops L i ov = true) (hw : Region.waitsFor .any ops i L = true) : ∃ v, ov = some v := by
  simp only [inL, hw, Bool.not_true, Bool.false_or, Bool.and_eq_true] at h
  exact Option.isSome_iff_exists.1 h.1
theorem inL_none {i : Nat} {ov : Option Value} (h : inL ops L i ov = true) (hw : Region.waitsFor .any ops L i = true) : ov = none := by
  simp only [inL, hw, Bool.not_true, Bool.false_or, Bool.and_eq_true] at h
  exact Option.isNone_iff_eq_none.1 h.2

/-- What the late one may have come to, where the walk knows this of it. -/
def Agrees (ov ov' : Option Value) : Prop := ∀ v, ov = some v → ov' = some v
/-- Operation number i yields v; ov: what the walk knows of the late one. -/
def Yields (P : Program) (ops : Array Oper) (C : Nat → Option Value → World → Prop) (E : List Nat) (L i : Nat) (o : Oper) (v : Value) (ov : Option Value) (a : Act) : Prop :=
  (Region.wanted o (yielded ops a.tmps) = true ∧ match posOf E 0 i with
    | some k => ∀ ov', Agrees ov ov' → inL ops L i ov' = true → ∀ w, C k ov' w → effUpon P (C (k + 1) ov') v ((execOp a.eval o).run P w)
    | none => ∀ m ov', Agrees ov ov' → inR ops E i m = true → inL ops L i ov' = true → ∀ w, C m ov' w → o.quietAt P a (C m ov') w v)
  ∨ (Region.wanted o (yielded ops a.tmps) = false ∧ v = undef ∧ posOf E 0 i = none)
theorem Yields.up {i : Nat} {o : Oper} {v u : Value} {a : Act} (h : Yields P ops C E L i o v none a) : Yields P ops C E L i o v (some u) a := by
  unfold Yields at *
  rcases h with ⟨hw, h⟩ | h
  · refine .inl ⟨hw, ?_⟩
    cases hp : posOf E 0 i with
    | some k =>
      simp only [hp] at h
      exact fun ov' _ => h ov' (fun _ e => by cases e)
    | none =>
      simp only [hp] at h
      exact fun m ov' _ => h m ov' (fun _ e => by cases e)
  · exact .inr h
def LateOk (P : Program) (ops : Array Oper) (C : Nat → Option Value → World → Prop) (E : List Nat) (L : Nat) (o : Oper) (a : Act) : Prop :=
  Region.wanted o (yielded ops a.tmps) = true ∧ ∀ m, inR ops E L m = true → ∀ w, C m none w → ∃ v w', (execOp a.eval o).run P w = .ok (.value v) w' ∧ C m (some v) w'

def mOp (P : Program) (ops : Array Oper) (C : Nat → Option Value → World → Prop) (E : List Nat) (L i : Nat) (K : Nat → Option Value → Act → Prop) (m : Nat) (ov : Option Value) (a : Act) : Prop :=
  match ops[i]? with
  | none => K m ov a
  | some o => if i = L then LateOk P ops C E L o a ∧ ∀ v, K m (some v) (a.put o.dst v) else ∃ v, Yields P ops C E L i o v ov a ∧ K (stepM E i m) ov (a.put o.dst v)

theorem mOp_mono {i m : Nat} {ov : Option Value} {a : Act} {K K' : Nat → Option Value → Act → Prop} (h : ∀ m ov a, K m ov a → K' m ov a) (hh : mOp P ops C E L i K m ov a) : mOp P ops C E L i K' m ov a := by
  unfold mOp at *
  split
  · rename_i ho; simp only [ho] at hh; exact h _ _ _ hh
  · rename_i o ho
    simp only [ho] at hh
    split
    · rename_i hL
      rw [if_pos hL] at hh
      exact ⟨hh.1, fun v => h _ _ _ (hh.2 v)⟩
    · rename_i hL
      rw [if_neg hL] at hh
      obtain ⟨v, h1, h2⟩ := hh
      exact ⟨v, h1, h _ _ _ h2⟩

def wpAnyM (P : Program) (ops : Array Oper) (C : Nat → Option Value → World → Prop) (E : List Nat) (L : Nat) (Q : Nat → Option Value → Act → Prop) : Nat → Array Bool → Nat → Option Value → Act → Prop
  | 0, listed, m, ov, a => Region.ready .any ops listed = [] ∧ Q m ov a
  | fuel + 1, listed, m, ov, a =>
    (Region.ready .any ops listed = [] → Q m ov a) ∧
    ∀ i ∈ Region.ready .any ops listed, mOp P ops C E L i (wpAnyM P ops C E L Q fuel (listed.setIfInBounds i true)) m ov a

/-- The late one has come up just where there is its value. -/
def Come (L : Nat) (listed : Array Bool) (ov : Option Value) : Prop := listed.getD L false = true ↔ ov.isSome = true

theorem come_inL {listed : Array Bool} {m i : Nat} {ov : Option Value} (inv : Inv ops E listed m) (hL : L < ops.size) (hcome : Come L listed ov) (hr : i ∈ Region.ready .any ops listed) : inL ops L i ov = true := by
  simp only [inL, Bool.and_eq_true, Bool.or_eq_true, Bool.not_eq_true']
  refine ⟨?_, ?_⟩
  · cases h : Region.waitsFor .any ops i L with
    | false => exact .inl rfl
    | true => exact .inr (hcome.1 (waits_listed h hr))
  · cases h : Region.waitsFor .any ops L i with
    | false => exact .inl rfl
    | true =>
      refine .inr ?_
      cases ov with
      | none => rfl
      | some v =>
        obtain ⟨oj, hoj, e, he, hb, hon⟩ := Region.waitsFor_spec h
        have h1 := inv.closed _ oj hoj (hcome.2 rfl) e he hb
        rw [hon, getD_both (mem_ready.1 hr).1] at h1
        cases h1
theorem come_step {listed : Array Bool} {i : Nat} {ov : Option Value} (hne : i ≠ L) (hcome : Come L listed ov) : Come L (listed.setIfInBounds i true) ov := by
  unfold Come
  rw [getD_set_ne false hne]
  exact hcome

theorem wpOp_of_mOp {i m : Nat} {ov : Option Value} {a : Act} {K : Nat → Option Value → Act → Prop} {K' : Act → World → Prop} {Q' : Exit → Act → World → Prop} {w : World} {listed : Array Bool} (hc : chainE ops E = true) (hnE : posOf E 0 L = none) (hL : L < ops.size) (inv : Inv ops E listed m) (hcome : Come L listed ov) (hr : i ∈ Region.ready .any ops listed)
    (hC : C m ov w) (h : ∀ ov' a w', Come L (listed.setIfInBounds i true) ov' → C (stepM E i m) ov' w' → K (stepM E i m) ov' a → K' a w') (hh : mOp P ops C E L i K m ov a) : wpOp P ops Q' i K' a w := by
  unfold mOp at hh
  obtain ⟨hun, o, ho, _⟩ := mem_ready.1 hr
  simp only [ho] at hh
  unfold wpOp
  simp only [ho]
  by_cases hiL : i = L
  · rw [if_pos hiL] at hh
    subst hiL
    obtain ⟨⟨hw, hrun⟩, hK⟩ := hh
    simp only [hw, if_true]
    refine .inl ?_
    have hov : ov = none := by
      cases ov with
      | none => rfl
      | some v =>
        have := hcome.2 rfl
        rw [getD_both hun] at this
        cases this
    subst hov
    obtain ⟨v, w', h1, h2⟩ := hrun m (inv.inR hr) w hC
    have hs : stepM E i m = m := by simp [stepM, hnE]
    rw [hs] at h
    unfold Oper.wp
    rw [h1]
    simp only [Oper.upon]
    refine h (some v) _ _ ?_ h2 (hK v)
    unfold Come
    have hil : i < listed.size := by rw [inv.size]; exact hL
    simp [hil]
  · rw [if_neg hiL] at hh
    have hcome' := come_step hiL hcome
    obtain ⟨v, hy, hK⟩ := hh
    rcases hy with ⟨hw, hy⟩ | ⟨hw, rfl, hp⟩
    · simp only [hw, if_true]
      refine .inl ?_
      cases hp : posOf E 0 i with
      | some k =>
        have hkm := inv.pos hc hr hp
        subst hkm
        simp only [hp] at hy
        have hs : stepM E i k = k + 1 := by simp [stepM, hp]
        rw [hs] at h hK
        exact wp_of_effUpon (hy ov (fun _ e => e) (come_inL inv hL hcome hr) w hC) fun w' hw' => h _ _ _ hcome' hw' hK
      | none =>
        simp only [hp] at hy
        have hs : stepM E i m = m := by simp [stepM, hp]
        rw [hs] at h hK
        exact wp_of_quietAt hC (hy m ov (fun _ e => e) (inv.inR hr) (come_inL inv hL hcome hr) w hC) fun w' hw' => h _ _ _ hcome' hw' hK
    · have hs : stepM E i m = m := by simp [stepM, hp]
      rw [hs] at h hK
      simp only [hw, Bool.false_eq_true, if_false]
      exact h _ _ _ hcome' hC hK

theorem wpAny_of_M {Q : Nat → Option Value → Act → Prop} {Q' : Exit → Act → World → Prop} (hc : chainE ops E = true) (hnE : posOf E 0 L = none) (hL : L < ops.size) (hQ : ∀ m ov a w, C m ov w → Q m ov a → Q' .normal a w) : ∀ (fuel : Nat) (listed : Array Bool) (m : Nat) (ov : Option Value) (a : Act) (w : World), Inv ops E listed m → Come L listed ov → C m ov w →
    wpAnyM P ops C E L Q fuel listed m ov a → wpAny P .any ops Q' fuel listed a w
  | 0, _, _, _, _, _, _, _, hw, h => ⟨h.1, hQ _ _ _ _ hw h.2⟩
  | fuel + 1, _, _, _, _, _, inv, hcome, hw, h => ⟨fun h0 => hQ _ _ _ _ hw (h.1 h0), fun i hi => wpOp_of_mOp hc hnE hL inv hcome hi hw (fun ov' a' w' hcome' hw' => wpAny_of_M hc hnE hL hQ fuel _ _ ov' a' w' (inv.step hc hi) hcome' hw') (h.2 i hi)⟩

theorem Yields.put {i : Nat} {o : Oper} {v : Value} {ov : Option Value} {a : Act} {dst : Option Tmp} {u : Value} (hs : ∀ cs b, o.op ≠ .select cs b) (h : ∀ d, dst = some d → d ∉ o.looksAt ops) : Yields P ops C E L i o v ov (a.put dst u) ↔ Yields P ops C E L i o v ov a := by
  unfold Yields Oper.quietAt
  rw [execOp_put o hs a dst u h, wanted_put o a dst u h]
theorem LateOk.put {o : Oper} {a : Act} {dst : Option Tmp} {u : Value} (hs : ∀ cs b, o.op ≠ .select cs b) (h : ∀ d, dst = some d → d ∉ o.looksAt ops) : LateOk P ops C E L o (a.put dst u) ↔ LateOk P ops C E L o a := by
  unfold LateOk
  rw [execOp_put o hs a dst u h, wanted_put o a dst u h]

theorem mOp_put {i j m : Nat} {ov : Option Value} {oi oj : Oper} {v : Value} (hnE : posOf E 0 L = none) (hov : j = L → ov = none) (hj : ops[j]? = some oj) (hap : oi.apart ops oj = true)
    (hsi : ∀ cs b, oi.op ≠ .select cs b) (hsj : ∀ cs b, oj.op ≠ .select cs b) {K : Nat → Option Value → Act → Prop} {a : Act}
    (hy : Yields P ops C E L i oi v ov a) (h : mOp P ops C E L j K (stepM E i m) ov (a.put oi.dst v)) :
    mOp P ops C E L j (fun m' ov' a' => (j ≠ L → ov' = ov) ∧ Yields P ops C E L i oi v ov' a' ∧ K (stepM E i m') ov' (a'.put oi.dst v)) m ov a := by
  obtain ⟨h1, h2, h3⟩ := Oper.apart_spec hap
  unfold mOp at *
  simp only [hj] at *
  by_cases hjL : j = L
  · rw [if_pos hjL] at h ⊢
    obtain rfl := hov hjL
    refine ⟨(LateOk.put hsj h1).1 h.1, fun u => ⟨fun hne => absurd hjL hne, (Yields.put hsi h3).2 hy.up, ?_⟩⟩
    rw [← Act.put_comm a v u h2]
    exact h.2 u
  · rw [if_neg hjL] at h ⊢
    obtain ⟨u, hu, hK⟩ := h
    refine ⟨u, (Yields.put hsj h1).1 hu, fun _ => by trivial, (Yields.put hsi h3).2 hy, ?_⟩
    rw [← Act.put_comm a v u h2]
    have hs : stepM E j (stepM E i m) = stepM E i (stepM E j m) := by
      unfold stepM
      split <;> split <;> rfl
    rw [← hs]
    exact hK

theorem getD_set_self (listed : Array Bool) (k : Nat) : (listed.setIfInBounds k true).getD k true = true := by
  simp only [Array.getD_eq_getD_getElem?, Array.getElem?_setIfInBounds]
  by_cases h : k < listed.size <;> simp [h]
theorem wpAnyM_first {Q : Nat → Option Value → Act → Prop} {i : Nat} {oi : Oper} {v : Value} (hnE : posOf E 0 L = none) (hiL : i ≠ L) (hi : ops[i]? = some oi) (hsel : ∀ (j : Nat) (o : Oper) cs b, ops[j]? = some o → o.op ≠ .select cs b) :
    ∀ (fuel : Nat) (listed : Array Bool) (m : Nat) (ov : Option Value) (a : Act),
      (∀ j oj, ops[j]? = some oj → j ≠ i → listed.getD j true = false → (∀ e ∈ oj.after, Region.binds .any e = true → e.on ≠ i) → oi.apart ops oj = true) →
      (∀ u, ov = some u → listed.getD L true = true) → i ∈ Region.ready .any ops listed → Yields P ops C E L i oi v ov a →
      wpAnyM P ops C E L Q fuel (listed.setIfInBounds i true) (stepM E i m) ov (a.put oi.dst v) → wpAnyM P ops C E L Q (fuel + 1) listed m ov a := by
  intro fuel
  have self : ∀ (f : Nat) (listed : Array Bool) (m : Nat) (ov : Option Value) (a : Act), Yields P ops C E L i oi v ov a → wpAnyM P ops C E L Q f (listed.setIfInBounds i true) (stepM E i m) ov (a.put oi.dst v) → mOp P ops C E L i (wpAnyM P ops C E L Q f (listed.setIfInBounds i true)) m ov a := fun f listed m ov a hy H => by
    unfold mOp
    simp only [hi]
    rw [if_neg hiL]
    exact ⟨v, hy, H⟩
  induction fuel with
  | zero =>
    intro listed m ov a _ hcm hr hy H
    refine ⟨fun h => (by rw [h] at hr; cases hr), fun j hj => ?_⟩
    by_cases hji : j = i
    · subst hji; exact self 0 listed m ov a hy H
    · have := ready_mono hj hji
      rw [H.1] at this
      cases this
  | succ fuel ih =>
    intro listed m ov a hfree hcm hr hy H
    refine ⟨fun h => (by rw [h] at hr; cases hr), fun j hj => ?_⟩
    by_cases hji : j = i
    · subst hji; exact self _ listed m ov a hy H
    · have h1 := H.2 j (ready_mono hj hji)
      obtain ⟨hjun, oj, hoj, hall⟩ := mem_ready.1 hj
      have hnot : ∀ e ∈ oj.after, Region.binds .any e = true → e.on ≠ i := fun e he hb heq => by
        have h1 := hall e he hb
        rw [heq, getD_both (mem_ready.1 hr).1] at h1
        cases h1
      have hov : j = L → ov = none := fun e => by
        subst e
        cases ov with
        | none => rfl
        | some u =>
          have := hcm u rfl
          rw [hjun] at this
          cases this
      have h2 := mOp_put hnE hov hoj (hfree j oj hoj hji hjun hnot) (fun cs b => hsel i oi cs b hi) (fun cs b => hsel j oj cs b hoj) hy h1
      have hfree' : ∀ k ok, ops[k]? = some ok → k ≠ i → (listed.setIfInBounds j true).getD k true = false →
          (∀ e ∈ ok.after, Region.binds .any e = true → e.on ≠ i) → oi.apart ops ok = true := fun k ok hk hki hun hno => by
        refine hfree k ok hk hki ?_ hno
        by_cases hjk : j = k
        · subst hjk; exact hjun
        · rw [getD_set_ne true hjk] at hun; exact hun
      refine mOp_mono (fun m' ov' a' h3 => ih (listed.setIfInBounds j true) m' ov' a' hfree' (fun u hu => ?_) (ready_mono hr (Ne.symm hji)) h3.2.1 ?_) h2
      · by_cases hjL : j = L
        · subst hjL
          exact getD_set_self _ _
        · rw [getD_set_ne true hjL]
          exact hcm u ((h3.1 hjL).symm.trans hu)
      · rw [Array.setIfInBounds_comm _ _ hji]
        exact h3.2.2

/-- The walk in the text's order. -/
def wpNat (P : Program) (ops : Array Oper) (C : Nat → Option Value → World → Prop) (E : List Nat) (L : Nat) (Q : Nat → Option Value → Act → Prop) : Nat → Nat → Option Value → List Oper → Act → Prop
  | _, m, ov, [], a => Q m ov a
  | k, m, ov, o :: rest, a => if k = L then LateOk P ops C E L o a ∧ ∀ v, wpNat P ops C E L Q (k + 1) m (some v) rest (a.put o.dst v) else ∃ v, Yields P ops C E L k o v ov a ∧ wpNat P ops C E L Q (k + 1) (stepM E k m) ov rest (a.put o.dst v)

/-- Where the late one is next in the text, nothing else may come up. -/
def lateFrom (ops : Array Oper) (L : Nat) : Nat → Nat → Array Bool → Bool
  | 0, _, _ => true
  | n + 1, k, listed => (k != L || (Region.ready .any ops listed == [L])) && lateFrom ops L n (k + 1) (listed.setIfInBounds k true)

theorem wpAnyM_lex {Q : Nat → Option Value → Act → Prop} (hnE : posOf E 0 L = none) (hs : Region.noSelect ops = true) : ∀ (l : List Oper) (k m : Nat) (ov : Option Value) (listed : Array Bool) (a : Act), (∀ j, l[j]? = ops[k + j]?) → (∀ u, ov = some u → listed.getD L true = true) →
    Region.lexFrom .any ops l.length k listed = true → lateFrom ops L l.length k listed = true → wpNat P ops C E L Q k m ov l a → wpAnyM P ops C E L Q l.length listed m ov a
  | [], _, _, _, _, _, _, _, hB, _, h => ⟨by simpa [Region.lexFrom] using hB, h⟩
  | o :: l, k, m, ov, listed, a, hl, hcm, hB, hT, h => by
    have h0 : ops[k]? = some o := by simpa using (hl 0).symm
    simp only [List.length_cons, Region.lexFrom, Bool.and_eq_true] at hB
    obtain ⟨⟨hr, hf⟩, hB'⟩ := hB
    simp only [List.length_cons, lateFrom, Bool.and_eq_true] at hT
    obtain ⟨hT0, hT'⟩ := hT
    have next : ∀ m ov a, (∀ u, ov = some u → (listed.setIfInBounds k true).getD L true = true) → wpNat P ops C E L Q (k + 1) m ov l a → wpAnyM P ops C E L Q l.length (listed.setIfInBounds k true) m ov a := fun m ov a hcm hK =>
      wpAnyM_lex hnE hs l (k + 1) m ov _ a (fun j => by have := hl (j + 1); simpa [Nat.add_assoc, Nat.add_comm 1 j] using this) hcm hB' hT' hK
    unfold wpNat at h
    by_cases hkL : k = L
    · rw [if_pos hkL] at h
      subst hkL
      have hone : Region.ready .any ops listed = [k] := by simpa using hT0
      refine ⟨fun h1 => (by rw [hone] at h1; cases h1), fun i hi => ?_⟩
      rw [hone] at hi
      obtain rfl : i = k := by simpa using hi
      unfold mOp
      simp only [h0, if_true]
      exact ⟨h.1, fun v => next _ _ _ (fun _ _ => getD_set_self _ _) (h.2 v)⟩
    · rw [if_neg hkL] at h
      obtain ⟨v, hy, hK⟩ := h
      exact wpAnyM_first hnE hkL h0 (Region.noSelect_spec hs) l.length listed m ov a (Region.free_spec h0 hf) hcm (by simpa using hr) hy (next _ _ _ (fun u hu => by rw [getD_set_ne true hkL]; exact hcm u hu) hK)

def lateB (ops : Array Oper) (E : List Nat) (L : Nat) : Bool := famB ops E && (posOf E 0 L).isNone && decide (L < ops.size) && lateFrom ops L ops.size 0 (Array.replicate ops.size false)

/-- **The region.** -/
theorem wp_region_late {id : Nat} {l : List Oper} {Q : Exit → Act → World → Prop} {a : Act} {w : World} (E : List Nat) (L : Nat) (C : Nat → Option Value → World → Prop) (hm : P.follows .mixedOrders = true) (hB : lateB l.toArray E L = true) (h0 : C 0 none w.drew)
    (h : wpNat P l.toArray C E L (fun m ov a' => ∀ w', C m ov w' → Q .normal a' w') 0 0 none l a) : (Code.region id l.toArray true).wp P Q a w := by
  simp only [lateB, famB, Region.lexB, Bool.and_eq_true, decide_eq_true_eq] at hB
  obtain ⟨⟨⟨⟨⟨⟨hs, hlex⟩, hc⟩, _⟩, hn⟩, hL⟩, hT⟩ := hB
  have hnE : posOf E 0 L = none := Option.isNone_iff_eq_none.1 hn
  refine wp_region_any hm (wpAny_of_M hc hnE hL (Q := fun m ov a' => ∀ w', C m ov w' → Q .normal a' w') (fun m ov a' w' hw' h => h w' hw') _ _ 0 none _ _ inv_zero ?_ h0 ?_)
  · unfold Come
    rw [getD_replicate_false]
    simp
  · have := wpAnyM_lex (C := C) (E := E) (m := 0) (ov := none) hnE hs l 0 (listed := Array.replicate l.toArray.size false) (a := a) (by simp) (fun _ e => by cases e) (by simpa using hlex) (by simpa using hT) h
    simpa using this

/-! ### One step of it -/
section
variable {Q : Nat → Option Value → Act → Prop} {k m : Nat} {ov : Option Value} {o : Oper} {rest : List Oper} {a : Act}
theorem nil_ (h : Q m ov a) : wpNat P ops C E L Q k m ov [] a := h
theorem step_ (hkL : k ≠ L) (v : Value) (hy : Yields P ops C E L k o v ov a) (h : wpNat P ops C E L Q (k + 1) (stepM E k m) ov rest (a.put o.dst v)) : wpNat P ops C E L Q k m ov (o :: rest) a := by
  unfold wpNat
  rw [if_neg hkL]
  exact ⟨v, hy, h⟩
/-- The late one: whatever its value. -/
theorem late_ (hw : Region.wanted o (yielded ops a.tmps) = true) (hrun : ∀ m, inR ops E L m = true → ∀ w, C m none w → ∃ v w', (execOp a.eval o).run P w = .ok (.value v) w' ∧ C m (some v) w')
    (h : ∀ v, wpNat P ops C E L Q (L + 1) m (some v) rest (a.put o.dst v)) : wpNat P ops C E L Q L m ov (o :: rest) a := by
  unfold wpNat
  rw [if_pos rfl]
  exact ⟨⟨hw, hrun⟩, h⟩
theorem any_ (v : Value) (hkL : k ≠ L) (hw : Region.wanted o (yielded ops a.tmps) = true) (hp : posOf E 0 k = none) (hrun : ∀ w, (execOp a.eval o).run P w = .ok (.value v) w)
    (h : wpNat P ops C E L Q (k + 1) m ov rest (a.put o.dst v)) : wpNat P ops C E L Q k m ov (o :: rest) a :=
  step_ hkL v (.inl ⟨hw, by rw [hp]; intro m' ov' _ _ _ w _; unfold Oper.quietAt; rw [hrun w]; exact ⟨rfl, rfl⟩⟩) (by unfold stepM; rw [hp]; exact h)
theorem read_ (v : Value) (hkL : k ≠ L) (hw : Region.wanted o (yielded ops a.tmps) = true) (hp : posOf E 0 k = none) (hrun : ∀ m' ov', Agrees ov ov' → inR ops E k m' = true → inL ops L k ov' = true → ∀ w, C m' ov' w → (execOp a.eval o).run P w = .ok (.value v) w)
    (h : wpNat P ops C E L Q (k + 1) m ov rest (a.put o.dst v)) : wpNat P ops C E L Q k m ov (o :: rest) a :=
  step_ hkL v (.inl ⟨hw, by rw [hp]; intro m' ov' ha hm' ho' w hw'; unfold Oper.quietAt; rw [hrun m' ov' ha hm' ho' w hw']; exact ⟨rfl, rfl⟩⟩) (by unfold stepM; rw [hp]; exact h)
theorem eff_ (v : Value) (hkL : k ≠ L) (hw : Region.wanted o (yielded ops a.tmps) = true) (hp : posOf E 0 k = some m) (hrun : ∀ ov', Agrees ov ov' → inL ops L k ov' = true → ∀ w, C m ov' w → ∃ w', (execOp a.eval o).run P w = .ok (.value v) w' ∧ C (m + 1) ov' w')
    (h : wpNat P ops C E L Q (k + 1) (m + 1) ov rest (a.put o.dst v)) : wpNat P ops C E L Q k m ov (o :: rest) a :=
  step_ hkL v (.inl ⟨hw, by rw [hp]; intro ov' ha ho' w hw'; obtain ⟨w', h1, h2⟩ := hrun ov' ha ho' w hw'; rw [h1]; exact ⟨h2, rfl⟩⟩) (by unfold stepM; rw [hp]; exact h)
theorem store_ (hkL : k ≠ L) (hw : Region.wanted o (yielded ops a.tmps) = true) (hp : posOf E 0 k = some m) (hrun : ∀ ov', Agrees ov ov' → inL ops L k ov' = true → ∀ w, C m ov' w → ∃ w', (execOp a.eval o).run P w = .ok .skip w' ∧ C (m + 1) ov' w')
    (h : wpNat P ops C E L Q (k + 1) (m + 1) ov rest (a.put o.dst undef)) : wpNat P ops C E L Q k m ov (o :: rest) a :=
  step_ hkL undef (.inl ⟨hw, by rw [hp]; intro ov' ha ho' w hw'; obtain ⟨w', h1, h2⟩ := hrun ov' ha ho' w hw'; rw [h1]; exact ⟨h2, rfl⟩⟩) (by unfold stepM; rw [hp]; exact h)
theorem effCall_ (v : Value) (f : FuncId) (args : Array Value) (hkL : k ≠ L) (hw : Region.wanted o (yielded ops a.tmps) = true) (hp : posOf E 0 k = some m) (hrun : ∀ w, (execOp a.eval o).run P w = .ok (.enter f args) w)
    (hcall : ∀ ov', Agrees ov ov' → inL ops L k ov' = true → ∀ w, C m ov' w → Calls P f args w fun e w' => e = .returned v ∧ C (m + 1) ov' w')
    (h : wpNat P ops C E L Q (k + 1) (m + 1) ov rest (a.put o.dst v)) : wpNat P ops C E L Q k m ov (o :: rest) a :=
  step_ hkL v (.inl ⟨hw, by rw [hp]; intro ov' ha ho' w hw'; rw [hrun w]; exact hcall ov' ha ho' w hw'⟩) (by unfold stepM; rw [hp]; exact h)
theorem pure_ (hkL : k ≠ L) (hw : Region.wanted o (yielded ops a.tmps) = true) (hp : posOf E 0 k = none) (hpl : plainOp o.op = true)
    (h : ∀ K : Act → Prop, (∀ a, wpNat P ops C E L Q (k + 1) m ov rest a → K a) → o.quiet P a (fun _ => True) K) : wpNat P ops C E L Q k m ov (o :: rest) a := by
  obtain ⟨v, h1, h2⟩ := h _ (fun _ h => h)
  refine read_ v hkL hw hp (fun m' ov' _ _ _ w _ => ?_) h2
  have h3 := h1 w trivial
  unfold Oper.quietAt at h3
  cases hr : (execOp a.eval o).run P w with
  | ok n w' =>
    obtain ⟨x, rfl⟩ := run_plain hpl hr
    rw [hr] at h3
    simp only [Oper.quietUpon] at h3
    rw [h3.1, h3.2]
  | halt x w' =>
    rw [hr] at h3
    simp only [Oper.quietUpon] at h3
end
end
end Go.Late
