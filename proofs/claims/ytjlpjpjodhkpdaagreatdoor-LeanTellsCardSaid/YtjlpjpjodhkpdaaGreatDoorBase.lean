/- PLAIN WORDS FOR BLAKE2s: rotations, half a mixing; the walks of bits.RotateLeft32, half, turn, figure. · A REGION THAT DRAWS ITS ORDER, WALKED ONCE IN THE ORDER OF THE TEXT, though some of its operations write: the writing ones (E) wait for each other in a chain; C m holds of every world in which the first m of them have been carried out; each other operation yields one value in every such world in which it may come up. · A BLOCK THAT IS KNOWN WHOLE ('RowIs'): read, written, kept. · BLAKE2s IN PLAIN LEAN: what a mixing, a round, a block make of the words. No program in sight. · THE MIXING CLOSURE OF blake.Block: it makes mixL of the words that it captured. · WHAT blake.Block READS: the tables; the words of a block. -/
import Derived.Test.YtjlpjpjodhkpdaaGreatDoorProg
import Derived.WalkKit
import Derived.WalkSpells
import Derived.WalkLawsBesides
import Derived.Outline
import Derived.Still
import Derived.StillTail
import Derived.Deep.Quiet
import Derived.Laws.Rows
import Derived.OwnWalk
import Derived.Lib.Hide
import Derived.Deep.QuietTactic
import Derived.BigQuiet
import Derived.Laws.BitsLemmas
set_option maxHeartbeats 1000000
set_option linter.unusedVariables false
set_option linter.unusedSimpArgs false
namespace Go.Proofs.YtjlpjpjodhkpdaaGreatDoor
open Go.RowKit
def ror (a b x : Int) : Int := bits .or .u32 (x / a) (x * b % 4294967296)
theorem bits_or_comm (x y : Int) : bits .or .u32 x y = bits .or .u32 y x := by
 simp only [bits, BitVec.or_comm]
def r16 (x : Int) : Int := ror 65536 65536 x
def r12 (x : Int) : Int := ror 4096 1048576 x
def r8 (x : Int) : Int := ror 256 16777216 x
def r7 (x : Int) : Int := ror 128 33554432 x
def xr (x y : Int) : Int := bits .xor .u32 x y
section rot
set_option maxHeartbeats 400000
theorem rot16 (x : Int) (w : World) :
 Calls Tryz.prog 149 #[.int .u32 x, .int .i64 (-16)] w fun e w' => e = .returned (.int .u32 (r16 x)) ∧ w = w' := by
 have hs : bits .and .u64 (IntKind.u64.wrap (-16)) 31 = 16 := by decide +kernel
 go_enter Tryz.func149, Tryz.ntmps149
 go_wp2
 go_ret
 exact ⟨by rw [r16, ror, bits_or_comm]; rfl, rfl⟩
theorem rot12 (x : Int) (w : World) :
 Calls Tryz.prog 149 #[.int .u32 x, .int .i64 (-12)] w fun e w' => e = .returned (.int .u32 (r12 x)) ∧ w = w' := by
 have hs : bits .and .u64 (IntKind.u64.wrap (-12)) 31 = 20 := by decide +kernel
 go_enter Tryz.func149, Tryz.ntmps149
 go_wp2
 go_ret
 exact ⟨by rw [r12, ror, bits_or_comm]; rfl, rfl⟩
theorem rot8 (x : Int) (w : World) :
 Calls Tryz.prog 149 #[.int .u32 x, .int .i64 (-8)] w fun e w' => e = .returned (.int .u32 (r8 x)) ∧ w = w' := by
 have hs : bits .and .u64 (IntKind.u64.wrap (-8)) 31 = 24 := by decide +kernel
 go_enter Tryz.func149, Tryz.ntmps149
 go_wp2
 go_ret
 exact ⟨by rw [r8, ror, bits_or_comm]; rfl, rfl⟩
theorem rot7 (x : Int) (w : World) :
 Calls Tryz.prog 149 #[.int .u32 x, .int .i64 (-7)] w fun e w' => e = .returned (.int .u32 (r7 x)) ∧ w = w' := by
 have hs : bits .and .u64 (IntKind.u64.wrap (-7)) 31 = 25 := by decide +kernel
 go_enter Tryz.func149, Tryz.ntmps149
 go_wp2
 go_ret
 exact ⟨by rw [r7, ror, bits_or_comm]; rfl, rfl⟩
end rot
def hA (a b x : Int) : Int := (a + (b + x)) % 4294967296
def hD (R : Int → Int) (a b d x : Int) : Int := R (xr d (hA a b x))
def hC (R : Int → Int) (a b c d x : Int) : Int := (c + hD R a b d x) % 4294967296
def hB (R S : Int → Int) (a b c d x : Int) : Int := S (xr b (hC R a b c d x))
theorem half1 (a b c d x : Int) (w : World) :
 Calls Tryz.prog 141 #[.int .u32 a, .int .u32 b, .int .u32 c, .int .u32 d, .int .u32 x, .int .i64 16, .int .i64 12] w fun e w' =>
  e = .returned (.tuple #[.int .u32 (hA a b x), .int .u32 (hB r16 r12 a b c d x), .int .u32 (hC r16 a b c d x), .int .u32 (hD r16 a b d x)]) ∧ w = w' := by
 go_enter Tryz.func141, Tryz.ntmps141
 go_wp2_with fail
 refine (rot16 _ _).mono ?_
 rintro e w' ⟨rfl, rfl⟩
 go_wp2_with fail
 refine (rot12 _ _).mono ?_
 rintro e w' ⟨rfl, rfl⟩
 go_wp2_with fail
 refine bodyPost_ret (v := .tuple #[.int .u32 (hA a b x), .int .u32 (hB r16 r12 a b c d x), .int .u32 (hC r16 a b c d x), .int .u32 (hD r16 a b d x)]) (by simp [results, Tryz.results141, go_sem, hA, hB, hC, hD, xr]) rfl ⟨rfl, rfl⟩
theorem half2 (a b c d x : Int) (w : World) :
 Calls Tryz.prog 141 #[.int .u32 a, .int .u32 b, .int .u32 c, .int .u32 d, .int .u32 x, .int .i64 8, .int .i64 7] w fun e w' =>
  e = .returned (.tuple #[.int .u32 (hA a b x), .int .u32 (hB r8 r7 a b c d x), .int .u32 (hC r8 a b c d x), .int .u32 (hD r8 a b d x)]) ∧ w = w' := by
 go_enter Tryz.func141, Tryz.ntmps141
 go_wp2_with fail
 refine (rot8 _ _).mono ?_
 rintro e w' ⟨rfl, rfl⟩
 go_wp2_with fail
 refine (rot7 _ _).mono ?_
 rintro e w' ⟨rfl, rfl⟩
 go_wp2_with fail
 refine bodyPost_ret (v := .tuple #[.int .u32 (hA a b x), .int .u32 (hB r8 r7 a b c d x), .int .u32 (hC r8 a b c d x), .int .u32 (hD r8 a b d x)]) (by simp [results, Tryz.results141, go_sem, hA, hB, hC, hD, xr]) rfl ⟨rfl, rfl⟩
section turns
set_option maxHeartbeats 400000
theorem turn16 (x : Int) (w : World) :
 Calls Tryz.prog 138 #[.int .u32 x, .int .u32 16] w fun e w' => e = .returned (.int .u32 (r16 x)) ∧ w = w' := by
 go_enter Tryz.func138, Tryz.ntmps138
 go_wp2
 go_ret
 exact ⟨rfl, rfl⟩
theorem turn12 (x : Int) (w : World) :
 Calls Tryz.prog 138 #[.int .u32 x, .int .u32 12] w fun e w' => e = .returned (.int .u32 (r12 x)) ∧ w = w' := by
 go_enter Tryz.func138, Tryz.ntmps138
 go_wp2
 go_ret
 exact ⟨rfl, rfl⟩
theorem turn8 (x : Int) (w : World) :
 Calls Tryz.prog 138 #[.int .u32 x, .int .u32 8] w fun e w' => e = .returned (.int .u32 (r8 x)) ∧ w = w' := by
 go_enter Tryz.func138, Tryz.ntmps138
 go_wp2
 go_ret
 exact ⟨rfl, rfl⟩
theorem turn7 (x : Int) (w : World) :
 Calls Tryz.prog 138 #[.int .u32 x, .int .u32 7] w fun e w' => e = .returned (.int .u32 (r7 x)) ∧ w = w' := by
 go_enter Tryz.func138, Tryz.ntmps138
 go_wp2
 go_ret
 exact ⟨rfl, rfl⟩
end turns
end Go.Proofs.YtjlpjpjodhkpdaaGreatDoor
namespace Go.Fam
section
variable {P : Program} {ops : Array Oper} {C : Nat → World → Prop} {E : List Nat}
def effUpon (P : Program) (C' : World → Prop) (v : Value) : Result Next → Prop
 | .ok (.value u) w' => C' w' ∧ u = v
 | .ok .skip w' => C' w' ∧ v = undef
 | .ok (.enter f args) w' => Calls P f args w' (fun e w'' => e = .returned v ∧ C' w'')
 | _ => False
def posOf : List Nat → Nat → Nat → Option Nat
 | [], _, _ => none
 | e :: r, k, i => if e = i then some k else posOf r (k + 1) i
theorem posOf_some : ∀ {E : List Nat} {s i k : Nat}, posOf E s i = some k → s ≤ k ∧ E[k - s]? = some i
 | [], _, _, _, h => by simp [posOf] at h
 | e :: r, s, i, k, h => by
   unfold posOf at h
   split at h
   · rename_i he
     have : s = k := by simpa using h
     subst this
     simp [he]
   · obtain ⟨h1, h2⟩ := posOf_some h
     refine ⟨by omega, ?_⟩
     rw [show k - s = (k - (s + 1)) + 1 by omega, List.getElem?_cons_succ]
     exact h2
theorem posOf_none : ∀ {E : List Nat} {s i : Nat}, posOf E s i = none → i ∉ E
 | [], _, _, _ => by simp
 | e :: r, s, i, h => by
   unfold posOf at h
   split at h
   · cases h
   · rename_i hne
     have := posOf_none h
     simp [this]
     exact fun h => hne h.symm
def inR (ops : Array Oper) (E : List Nat) (i m : Nat) : Bool :=
 (List.range E.length).all fun k => (!(Region.waitsFor .any ops i (E.getD k 0)) || decide (k < m)) && (!(Region.waitsFor .any ops (E.getD k 0) i) || decide (m ≤ k))
def chainE (ops : Array Oper) (E : List Nat) : Bool :=
 (List.range E.length).all fun k => decide (E.getD k 0 < ops.size) && (k == 0 || (decide (E.getD (k - 1) 0 < E.getD k 0) && Region.waitsFor .any ops (E.getD k 0) (E.getD (k - 1) 0)))
def Yields (P : Program) (ops : Array Oper) (C : Nat → World → Prop) (E : List Nat) (i : Nat) (o : Oper) (v : Value) (a : Act) : Prop :=
 (Region.wanted o (yielded ops a.tmps) = true ∧ match posOf E 0 i with
   | some k => ∀ w, C k w → effUpon P (C (k + 1)) v ((execOp a.eval o).run P w)
   | none => ∀ m, inR ops E i m = true → ∀ w, C m w → o.quietAt P a (C m) w v)
 ∨ (Region.wanted o (yielded ops a.tmps) = false ∧ v = undef ∧ posOf E 0 i = none)
def stepM (E : List Nat) (i m : Nat) : Nat := if (posOf E 0 i).isSome then m + 1 else m
def mOp (P : Program) (ops : Array Oper) (C : Nat → World → Prop) (E : List Nat) (i : Nat) (K : Nat → Act → Prop) (m : Nat) (a : Act) : Prop :=
 match ops[i]? with
 | none => K m a
 | some o => ∃ v, Yields P ops C E i o v a ∧ K (stepM E i m) (a.put o.dst v)
theorem mOp_mono {i m : Nat} {a : Act} {K K' : Nat → Act → Prop} (h : ∀ m a, K m a → K' m a) (hh : mOp P ops C E i K m a) : mOp P ops C E i K' m a := by
 unfold mOp at *
 split
 · rename_i ho; simp only [ho] at hh; exact h _ _ hh
 · rename_i o ho
   simp only [ho] at hh
   obtain ⟨v, h1, h2⟩ := hh
   exact ⟨v, h1, h _ _ h2⟩
def wpAnyM (P : Program) (ops : Array Oper) (C : Nat → World → Prop) (E : List Nat) (Q : Nat → Act → Prop) : Nat → Array Bool → Nat → Act → Prop
 | 0, listed, m, a => Region.ready .any ops listed = [] ∧ Q m a
 | fuel + 1, listed, m, a =>
   (Region.ready .any ops listed = [] → Q m a) ∧
   ∀ i ∈ Region.ready .any ops listed, mOp P ops C E i (wpAnyM P ops C E Q fuel (listed.setIfInBounds i true)) m a
structure Inv (ops : Array Oper) (E : List Nat) (listed : Array Bool) (m : Nat) : Prop where
 size : listed.size = ops.size
 closed : ∀ j oj, ops[j]? = some oj → listed.getD j false = true → ∀ e ∈ oj.after, Region.binds .any e = true → listed.getD e.on false = true
 eff : ∀ k j, E[k]? = some j → (listed.getD j false = true ↔ k < m)
theorem chainE_wait (h : chainE ops E = true) {k i j : Nat} (hi : E[k]? = some i) (hj : E[k + 1]? = some j) : i < j ∧ Region.waitsFor .any ops j i = true := by
 have hk := (List.getElem?_eq_some_iff.1 hj).1
 have h1 := List.all_eq_true.1 h (k + 1) (List.mem_range.2 hk)
 simp only [Bool.and_eq_true, Bool.or_eq_true, decide_eq_true_eq, beq_iff_eq] at h1
 have h2 := h1.2.resolve_left (by omega)
 rw [Nat.add_sub_cancel, List.getD_eq_getElem?_getD, List.getD_eq_getElem?_getD, hi, hj] at h2
 exact h2
theorem chainE_mono (h : chainE ops E = true) : ∀ (d : Nat) {k i j : Nat}, E[k]? = some i → E[k + d + 1]? = some j → i < j
 | 0, _, _, _, hi, hj => (chainE_wait h hi hj).1
 | d + 1, k, i, j, hi, hj => by
   have hk := (List.getElem?_eq_some_iff.1 hj).1
   obtain ⟨x, hx⟩ : ∃ x, E[k + d + 1]? = some x := ⟨_, List.getElem?_eq_getElem (by omega)⟩
   exact Nat.lt_trans (chainE_mono h d hi hx) (chainE_wait h hx hj).1
theorem chainE_inj (h : chainE ops E = true) {k k' i : Nat} (hi : E[k]? = some i) (hj : E[k']? = some i) : k = k' := by
 rcases Nat.lt_trichotomy k k' with hlt | he | hlt
 · have := chainE_mono h (k' - k - 1) hi (by rw [show k + (k' - k - 1) + 1 = k' by omega]; exact hj)
   omega
 · exact he
 · have := chainE_mono h (k - k' - 1) hj (by rw [show k' + (k - k' - 1) + 1 = k by omega]; exact hi)
   omega
theorem waits_listed {i j : Nat} {listed : Array Bool} (hw : Region.waitsFor .any ops i j = true) (hr : i ∈ Region.ready .any ops listed) : listed.getD j false = true := by
 obtain ⟨oi, hoi, e, he, hb, hon⟩ := Region.waitsFor_spec hw
 obtain ⟨_, o, ho, hall⟩ := mem_ready.1 hr
 obtain rfl : o = oi := Option.some.inj (ho.symm.trans hoi)
 rw [← hon]
 exact hall e he hb
theorem Inv.pos {listed : Array Bool} {m i k : Nat} (hc : chainE ops E = true) (inv : Inv ops E listed m) (hr : i ∈ Region.ready .any ops listed) (hp : posOf E 0 i = some k) : k = m := by
 obtain ⟨_, hk⟩ := posOf_some hp
 rw [Nat.sub_zero] at hk
 have hun := getD_both (mem_ready.1 hr).1
 have h1 : ¬ k < m := fun hlt => by
  rw [(inv.eff k i hk).2 hlt] at hun
  cases hun
 cases k with
 | zero => omega
 | succ k =>
   obtain ⟨x, hx⟩ : ∃ x, E[k]? = some x := ⟨_, List.getElem?_eq_getElem (by have := (List.getElem?_eq_some_iff.1 hk).1; omega)⟩
   have h2 := waits_listed (chainE_wait hc hx hk).2 hr
   have := (inv.eff k x hx).1 h2
   omega
theorem Inv.inR {listed : Array Bool} {m i : Nat} (inv : Inv ops E listed m) (hr : i ∈ Region.ready .any ops listed) : Fam.inR ops E i m = true := by
 refine List.all_eq_true.2 fun k hk => ?_
 have hk := List.mem_range.1 hk
 have hj : E[k]? = some E[k] := List.getElem?_eq_getElem hk
 have hg : E.getD k 0 = E[k] := by rw [List.getD_eq_getElem?_getD, hj]; rfl
 rw [hg]
 simp only [Bool.and_eq_true, Bool.or_eq_true, Bool.not_eq_true', decide_eq_true_eq]
 refine ⟨?_, ?_⟩
 · cases h : Region.waitsFor .any ops i E[k] with
   | false => exact .inl rfl
   | true => exact .inr ((inv.eff k _ hj).1 (waits_listed h hr))
 · cases h : Region.waitsFor .any ops E[k] i with
   | false => exact .inl rfl
   | true =>
     refine .inr (Nat.le_of_not_lt fun hlt => ?_)
     obtain ⟨oj, hoj, e, he, hb, hon⟩ := Region.waitsFor_spec h
     have h1 := inv.closed _ oj hoj ((inv.eff k _ hj).2 hlt) e he hb
     rw [hon, getD_both (mem_ready.1 hr).1] at h1
     cases h1
theorem inR_le {i m : Nat} (h : Fam.inR ops E i m = true) (k : Nat) (hk : k < E.length) (hw : Region.waitsFor .any ops (E.getD k 0) i = true) : m ≤ k := by
 have h1 := List.all_eq_true.1 h k (List.mem_range.2 hk)
 simp only [Bool.and_eq_true, Bool.or_eq_true, Bool.not_eq_true', decide_eq_true_eq] at h1
 rcases h1.2 with h2 | h2
 · rw [hw] at h2; cases h2
 · exact h2
theorem Inv.step {listed : Array Bool} {m i : Nat} (hc : chainE ops E = true) (inv : Inv ops E listed m) (hr : i ∈ Region.ready .any ops listed) : Inv ops E (listed.setIfInBounds i true) (stepM E i m) := by
 obtain ⟨hun, oi, hoi, hall⟩ := mem_ready.1 hr
 have hil : i < listed.size := by rw [inv.size]; exact (Array.getElem?_eq_some_iff.1 hoi).1
 refine ⟨by simp [inv.size], fun j oj hj hl e he hb => ?_, fun k j hj => ?_⟩
 · by_cases hij : i = j
   · subst hij
     obtain rfl : oj = oi := Option.some.inj (hj.symm.trans hoi)
     exact getD_set_true (hall e he hb)
   · rw [getD_set_ne false hij] at hl
     exact getD_set_true (inv.closed j oj hj hl e he hb)
 · unfold stepM
   cases hp : posOf E 0 i with
   | some k' =>
     have hkm := inv.pos hc hr hp
     subst hkm
     obtain ⟨_, hk'⟩ := posOf_some hp
     rw [Nat.sub_zero] at hk'
     simp only [Option.isSome_some, if_true]
     by_cases hij : i = j
     · subst hij
       have := chainE_inj hc hj hk'
       subst this
       simp [hil]
     · rw [getD_set_ne false hij, inv.eff k j hj]
       have : k ≠ k' := fun h => hij (by rw [h] at hj; exact Option.some.inj (hk'.symm.trans hj))
       omega
   | none =>
     have hn := posOf_none hp
     have hij : i ≠ j := fun h => hn (h ▸ List.mem_of_getElem? hj)
     simp only [Option.isSome_none, Bool.false_eq_true, if_false]
     rw [getD_set_ne false hij]
     exact inv.eff k j hj
theorem wp_of_quietAt {o : Oper} {a : Act} {D : World → Prop} {v : Value} {K' : Act → World → Prop} {Q' : Exit → Act → World → Prop} {w : World} (hD : D w) (h3 : o.quietAt P a D w v) (hK : ∀ w', D w' → K' (a.put o.dst v) w') : o.wp P a w K' Q' := by
 unfold Oper.quietAt at h3
 unfold Oper.wp
 generalize (execOp a.eval o).run P w = r at *
 cases r with
 | ok n w' =>
   cases n <;> simp only [Oper.quietUpon] at h3 <;> simp only [Oper.upon]
   case value u =>
    obtain ⟨e1, e2⟩ := h3
    rw [e1, e2]
    exact hK _ hD
   case skip =>
    obtain ⟨e1, e2⟩ := h3
    rw [e1, ← e2]
    exact hK _ hD
   case enter f args =>
    obtain ⟨e1, hc⟩ := h3
    rw [e1]
    exact hc.mono fun e w'' ⟨he, hw''⟩ => by subst he; exact hK _ hw''
 | halt x w' => simp only [Oper.quietUpon] at h3
theorem wp_of_effUpon {o : Oper} {a : Act} {D : World → Prop} {v : Value} {K' : Act → World → Prop} {Q' : Exit → Act → World → Prop} {w : World} (h3 : effUpon P D v ((execOp a.eval o).run P w)) (hK : ∀ w', D w' → K' (a.put o.dst v) w') : o.wp P a w K' Q' := by
 unfold Oper.wp
 generalize (execOp a.eval o).run P w = r at *
 cases r with
 | ok n w' =>
   cases n <;> simp only [effUpon] at h3 <;> simp only [Oper.upon]
   case value u =>
    obtain ⟨e1, e2⟩ := h3
    rw [e2]
    exact hK _ e1
   case skip =>
    obtain ⟨e1, e2⟩ := h3
    rw [← e2]
    exact hK _ e1
   case enter f args =>
    exact h3.mono fun e w'' ⟨he, hw''⟩ => by subst he; exact hK _ hw''
 | halt x w' => simp only [effUpon] at h3
theorem wpOp_of_mOp {i m : Nat} {a : Act} {K : Nat → Act → Prop} {K' : Act → World → Prop} {Q' : Exit → Act → World → Prop} {w : World} {listed : Array Bool} (hc : chainE ops E = true) (inv : Inv ops E listed m) (hr : i ∈ Region.ready .any ops listed)
 (hC : C m w) (h : ∀ a w', C (stepM E i m) w' → K (stepM E i m) a → K' a w') (hh : mOp P ops C E i K m a) : wpOp P ops Q' i K' a w := by
 unfold mOp at hh
 obtain ⟨_, o, ho, _⟩ := mem_ready.1 hr
 simp only [ho] at hh
 obtain ⟨v, hy, hK⟩ := hh
 unfold wpOp
 simp only [ho]
 rcases hy with ⟨hw, hy⟩ | ⟨hw, rfl, hp⟩
 · simp only [hw, if_true]
   refine .inl ?_
   cases hp : posOf E 0 i with
   | some k =>
     have hkm := inv.pos hc hr hp
     subst hkm
     simp only [hp] at hy
     have hs : stepM E i k = k + 1 := by simp [stepM, hp]
     rw [hs] at h hK
     exact wp_of_effUpon (hy w hC) fun w' hw' => h _ _ hw' hK
   | none =>
     simp only [hp] at hy
     have hs : stepM E i m = m := by simp [stepM, hp]
     rw [hs] at h hK
     exact wp_of_quietAt hC (hy m (inv.inR hr) w hC) fun w' hw' => h _ _ hw' hK
 · have hs : stepM E i m = m := by simp [stepM, hp]
   rw [hs] at h hK
   simp only [hw, Bool.false_eq_true, if_false]
   exact h _ _ hC hK
theorem wpAny_of_M {Q : Nat → Act → Prop} {Q' : Exit → Act → World → Prop} (hc : chainE ops E = true) (hQ : ∀ m a w, C m w → Q m a → Q' .normal a w) : ∀ (fuel : Nat) (listed : Array Bool) (m : Nat) (a : Act) (w : World), Inv ops E listed m → C m w →
 wpAnyM P ops C E Q fuel listed m a → wpAny P .any ops Q' fuel listed a w
 | 0, _, _, _, _, _, hw, h => ⟨h.1, hQ _ _ _ hw h.2⟩
 | fuel + 1, _, _, _, _, inv, hw, h => ⟨fun h0 => hQ _ _ _ hw (h.1 h0), fun i hi => wpOp_of_mOp hc inv hi hw (fun a' w' hw' => wpAny_of_M hc hQ fuel _ _ a' w' (inv.step hc hi) hw') (h.2 i hi)⟩
theorem Yields.put {i : Nat} {o : Oper} {v : Value} {a : Act} {dst : Option Tmp} {u : Value} (hs : ∀ cs b, o.op ≠ .select cs b) (h : ∀ d, dst = some d → d ∉ o.looksAt ops) : Yields P ops C E i o v (a.put dst u) ↔ Yields P ops C E i o v a := by
 unfold Yields Oper.quietAt
 rw [execOp_put o hs a dst u h, wanted_put o a dst u h]
theorem mOp_put {i j m : Nat} {oi oj : Oper} {v : Value} (hj : ops[j]? = some oj) (hap : oi.apart ops oj = true)
 (hsi : ∀ cs b, oi.op ≠ .select cs b) (hsj : ∀ cs b, oj.op ≠ .select cs b) {K : Nat → Act → Prop} {a : Act}
 (hy : Yields P ops C E i oi v a) (h : mOp P ops C E j K (stepM E i m) (a.put oi.dst v)) :
 mOp P ops C E j (fun m' a' => Yields P ops C E i oi v a' ∧ K (stepM E i m') (a'.put oi.dst v)) m a := by
 obtain ⟨h1, h2, h3⟩ := Oper.apart_spec hap
 unfold mOp at *
 simp only [hj] at *
 obtain ⟨u, hu, hK⟩ := h
 refine ⟨u, (Yields.put hsj h1).1 hu, (Yields.put hsi h3).2 hy, ?_⟩
 rw [← Act.put_comm a v u h2]
 have hs : stepM E j (stepM E i m) = stepM E i (stepM E j m) := by
  unfold stepM
  split <;> split <;> rfl
 rw [← hs]
 exact hK
theorem wpAnyM_first {Q : Nat → Act → Prop} {i : Nat} {oi : Oper} {v : Value} (hi : ops[i]? = some oi) (hsel : ∀ (j : Nat) (o : Oper) cs b, ops[j]? = some o → o.op ≠ .select cs b) :
 ∀ (fuel : Nat) (listed : Array Bool) (m : Nat) (a : Act),
  (∀ j oj, ops[j]? = some oj → j ≠ i → listed.getD j true = false → (∀ e ∈ oj.after, Region.binds .any e = true → e.on ≠ i) → oi.apart ops oj = true) →
  i ∈ Region.ready .any ops listed → Yields P ops C E i oi v a →
  wpAnyM P ops C E Q fuel (listed.setIfInBounds i true) (stepM E i m) (a.put oi.dst v) → wpAnyM P ops C E Q (fuel + 1) listed m a := by
 intro fuel
 have self : ∀ (f : Nat) (listed : Array Bool) (m : Nat) (a : Act), Yields P ops C E i oi v a → wpAnyM P ops C E Q f (listed.setIfInBounds i true) (stepM E i m) (a.put oi.dst v) → mOp P ops C E i (wpAnyM P ops C E Q f (listed.setIfInBounds i true)) m a := fun f listed m a hy H => by
  unfold mOp
  simp only [hi]
  exact ⟨v, hy, H⟩
 induction fuel with
 | zero =>
   intro listed m a _ hr hy H
   refine ⟨fun h => (by rw [h] at hr; cases hr), fun j hj => ?_⟩
   by_cases hji : j = i
   · subst hji; exact self 0 listed m a hy H
   · have := ready_mono hj hji
     rw [H.1] at this
     cases this
 | succ fuel ih =>
   intro listed m a hfree hr hy H
   refine ⟨fun h => (by rw [h] at hr; cases hr), fun j hj => ?_⟩
   by_cases hji : j = i
   · subst hji; exact self _ listed m a hy H
   · have h1 := H.2 j (ready_mono hj hji)
     obtain ⟨hjun, oj, hoj, hall⟩ := mem_ready.1 hj
     have hnot : ∀ e ∈ oj.after, Region.binds .any e = true → e.on ≠ i := fun e he hb heq => by
      have h1 := hall e he hb
      rw [heq, getD_both (mem_ready.1 hr).1] at h1
      cases h1
     have h2 := mOp_put hoj (hfree j oj hoj hji hjun hnot) (fun cs b => hsel i oi cs b hi) (fun cs b => hsel j oj cs b hoj) hy h1
     have hfree' : ∀ k ok, ops[k]? = some ok → k ≠ i → (listed.setIfInBounds j true).getD k true = false →
      (∀ e ∈ ok.after, Region.binds .any e = true → e.on ≠ i) → oi.apart ops ok = true := fun k ok hk hki hun hno => by
      refine hfree k ok hk hki ?_ hno
      by_cases hjk : j = k
      · subst hjk; exact hjun
      · rw [getD_set_ne true hjk] at hun; exact hun
     refine mOp_mono (fun m' a' h3 => ih (listed.setIfInBounds j true) m' a' hfree' (ready_mono hr (Ne.symm hji)) h3.1 ?_) h2
     rw [Array.setIfInBounds_comm _ _ hji]
     exact h3.2
def wpNat (P : Program) (ops : Array Oper) (C : Nat → World → Prop) (E : List Nat) (Q : Nat → Act → Prop) : Nat → Nat → List Oper → Act → Prop
 | _, m, [], a => Q m a
 | k, m, o :: rest, a => ∃ v, Yields P ops C E k o v a ∧ wpNat P ops C E Q (k + 1) (stepM E k m) rest (a.put o.dst v)
theorem wpAnyM_lex {Q : Nat → Act → Prop} (hs : Region.noSelect ops = true) : ∀ (l : List Oper) (k m : Nat) (listed : Array Bool) (a : Act), (∀ j, l[j]? = ops[k + j]?) →
 Region.lexFrom .any ops l.length k listed = true → wpNat P ops C E Q k m l a → wpAnyM P ops C E Q l.length listed m a
 | [], _, _, _, _, _, hB, h => ⟨by simpa [Region.lexFrom] using hB, h⟩
 | o :: l, k, m, listed, a, hl, hB, h => by
   have h0 : ops[k]? = some o := by simpa using (hl 0).symm
   simp only [List.length_cons, Region.lexFrom, Bool.and_eq_true] at hB
   obtain ⟨⟨hr, hf⟩, hB'⟩ := hB
   obtain ⟨v, hy, hK⟩ := h
   exact wpAnyM_first h0 (Region.noSelect_spec hs) l.length listed m a (Region.free_spec h0 hf) (by simpa using hr) hy
    (wpAnyM_lex hs l (k + 1) _ _ _ (fun j => by have := hl (j + 1); simpa [Nat.add_assoc, Nat.add_comm 1 j] using this) hB' hK)
def famB (ops : Array Oper) (E : List Nat) : Bool := Region.lexB .any ops && chainE ops E && decide (∀ i ∈ E, i < ops.size)
theorem inv_zero : Inv ops E (Array.replicate ops.size false) 0 :=
 ⟨by simp, (fun j oj _ hl => by rw [getD_replicate_false] at hl; cases hl), (fun k j _ => by rw [getD_replicate_false]; simp)⟩
theorem wp_region_fam {id : Nat} {l : List Oper} {Q : Exit → Act → World → Prop} {a : Act} {w : World} (E : List Nat) (C : Nat → World → Prop) (hm : P.follows .mixedOrders = true) (hB : famB l.toArray E = true) (h0 : C 0 w.drew)
 (h : wpNat P l.toArray C E (fun m a' => ∀ w', C m w' → Q .normal a' w') 0 0 l a) : (Code.region id l.toArray true).wp P Q a w := by
 simp only [famB, Region.lexB, Bool.and_eq_true] at hB
 obtain ⟨⟨⟨hs, hlex⟩, hc⟩, _⟩ := hB
 refine wp_region_any hm (wpAny_of_M hc (Q := fun m a' => ∀ w', C m w' → Q .normal a' w') (fun m a' w' hw' h => h w' hw') _ _ 0 _ _ inv_zero h0 ?_)
 have := wpAnyM_lex (C := C) (E := E) (m := 0) hs l 0 (Array.replicate l.toArray.size false) a (by simp) (by simpa using hlex) h
 simpa using this
section
variable {Q : Nat → Act → Prop} {k m : Nat} {o : Oper} {rest : List Oper} {a : Act}
theorem nil_ (h : Q m a) : wpNat P ops C E Q k m [] a := h
theorem any_ (v : Value) (hw : Region.wanted o (yielded ops a.tmps) = true) (hp : posOf E 0 k = none) (hrun : ∀ w, (execOp a.eval o).run P w = .ok (.value v) w)
 (h : wpNat P ops C E Q (k + 1) m rest (a.put o.dst v)) : wpNat P ops C E Q k m (o :: rest) a :=
 ⟨v, .inl ⟨hw, by rw [hp]; intro m' _ w _; unfold Oper.quietAt; rw [hrun w]; exact ⟨rfl, rfl⟩⟩, by unfold stepM; rw [hp]; exact h⟩
theorem read_ (v : Value) (hw : Region.wanted o (yielded ops a.tmps) = true) (hp : posOf E 0 k = none) (hrun : ∀ m', inR ops E k m' = true → ∀ w, C m' w → (execOp a.eval o).run P w = .ok (.value v) w)
 (h : wpNat P ops C E Q (k + 1) m rest (a.put o.dst v)) : wpNat P ops C E Q k m (o :: rest) a :=
 ⟨v, .inl ⟨hw, by rw [hp]; intro m' hm' w hw'; unfold Oper.quietAt; rw [hrun m' hm' w hw']; exact ⟨rfl, rfl⟩⟩, by unfold stepM; rw [hp]; exact h⟩
theorem call_ (v : Value) (f : FuncId) (args : Array Value) (hw : Region.wanted o (yielded ops a.tmps) = true) (hp : posOf E 0 k = none) (hrun : ∀ w, (execOp a.eval o).run P w = .ok (.enter f args) w)
 (hcall : ∀ m', inR ops E k m' = true → ∀ w, C m' w → Calls P f args w fun e w' => e = .returned v ∧ C m' w')
 (h : wpNat P ops C E Q (k + 1) m rest (a.put o.dst v)) : wpNat P ops C E Q k m (o :: rest) a :=
 ⟨v, .inl ⟨hw, by rw [hp]; intro m' hm' w hw'; unfold Oper.quietAt; rw [hrun w]; exact ⟨rfl, hcall m' hm' w hw'⟩⟩, by unfold stepM; rw [hp]; exact h⟩
theorem eff_ (v : Value) (hw : Region.wanted o (yielded ops a.tmps) = true) (hp : posOf E 0 k = some m) (hrun : ∀ w, C m w → ∃ w', (execOp a.eval o).run P w = .ok (.value v) w' ∧ C (m + 1) w')
 (h : wpNat P ops C E Q (k + 1) (m + 1) rest (a.put o.dst v)) : wpNat P ops C E Q k m (o :: rest) a :=
 ⟨v, .inl ⟨hw, by rw [hp]; intro w hw'; obtain ⟨w', h1, h2⟩ := hrun w hw'; rw [h1]; exact ⟨h2, rfl⟩⟩, by unfold stepM; rw [hp]; exact h⟩
theorem store_ (hw : Region.wanted o (yielded ops a.tmps) = true) (hp : posOf E 0 k = some m) (hrun : ∀ w, C m w → ∃ w', (execOp a.eval o).run P w = .ok .skip w' ∧ C (m + 1) w')
 (h : wpNat P ops C E Q (k + 1) (m + 1) rest (a.put o.dst undef)) : wpNat P ops C E Q k m (o :: rest) a :=
 ⟨undef, .inl ⟨hw, by rw [hp]; intro w hw'; obtain ⟨w', h1, h2⟩ := hrun w hw'; rw [h1]; exact ⟨h2, rfl⟩⟩, by unfold stepM; rw [hp]; exact h⟩
theorem effCall_ (v : Value) (f : FuncId) (args : Array Value) (hw : Region.wanted o (yielded ops a.tmps) = true) (hp : posOf E 0 k = some m) (hrun : ∀ w, (execOp a.eval o).run P w = .ok (.enter f args) w)
 (hcall : ∀ w, C m w → Calls P f args w fun e w' => e = .returned v ∧ C (m + 1) w')
 (h : wpNat P ops C E Q (k + 1) (m + 1) rest (a.put o.dst v)) : wpNat P ops C E Q k m (o :: rest) a :=
 ⟨v, .inl ⟨hw, by rw [hp]; intro w hw'; rw [hrun w]; exact hcall w hw'⟩, by unfold stepM; rw [hp]; exact h⟩
end
def plainOp : Op → Bool
 | .move _ | .assign _ | .pick _ _ _ | .build _ _ | .binOp _ _ _ _ _ | .unOp _ _ _ | .convert _ _ _ | .makeFunc _ _ _ | .makeInterface _ _ | .slice _ _ _ _ _ | .fieldAddr _ _ _ | .field _ _ _ | .indexAddr _ _ _ | .index _ _ _ | .extract _ _ => true
 | _ => false
theorem run_valued {s : Sem Value} {w w' : World} {n : Next} (h : (do let v ← s; pure (.value v) : Sem Next).run P w = .ok n w') : ∃ x, n = .value x := by
 rw [Sem.run_bind] at h
 cases hs : s.run P w with
 | ok v w1 =>
   rw [hs] at h
   simp [Result.andThen, Sem.run_pure] at h
   exact ⟨v, h.1.symm⟩
 | halt x w1 =>
   rw [hs] at h
   simp [Result.andThen] at h
theorem run_plain {o : Oper} {ρ : Operand → Value} {w w' : World} {n : Next} (hp : plainOp o.op = true) (h : (execOp ρ o).run P w = .ok n w') : ∃ x, n = .value x := by
 obtain ⟨dst, op, type, pos, after, guard⟩ := o
 cases op <;> simp only [plainOp] at hp <;> first
  | (cases hp; done)
  | (simp only [execOp] at h; exact run_valued h)
  | (simp only [execOp, Sem.run_pure] at h; injection h with h1 h2; exact ⟨_, h1.symm⟩)
  | skip
 case pick c x y =>
  simp only [execOp] at h
  rw [Sem.run_bind] at h
  cases hs : (asBool (ρ c)).run P w with
  | ok v w1 =>
    rw [hs] at h
    simp [Result.andThen, Sem.run_pure] at h
    exact ⟨_, h.1.symm⟩
  | halt x w1 =>
    rw [hs] at h
    simp [Result.andThen] at h
section
variable {Q : Nat → Act → Prop} {k m : Nat} {o : Oper} {rest : List Oper} {a : Act}
theorem pure_ (hw : Region.wanted o (yielded ops a.tmps) = true) (hp : posOf E 0 k = none) (hpl : plainOp o.op = true)
 (h : ∀ K : Act → Prop, (∀ a, wpNat P ops C E Q (k + 1) m rest a → K a) → o.quiet P a (fun _ => True) K) : wpNat P ops C E Q k m (o :: rest) a := by
 obtain ⟨v, h1, h2⟩ := h _ (fun _ h => h)
 refine read_ v hw hp (fun m' _ w _ => ?_) h2
 have h3 := h1 w trivial
 unfold Oper.quietAt at h3
 cases hr : (execOp a.eval o).run P w with
 | ok n w' =>
   obtain ⟨x, rfl⟩ := run_plain hpl hr
   rw [hr] at h3
   simp only [Oper.quietUpon] at h3
   rw [h3.1, h3.2]
 | halt x w' =>
   rw [hr] at h3
   simp only [Oper.quietUpon] at h3
end
end
end Go.Fam
namespace Go.Proofs.YtjlpjpjodhkpdaaGreatDoor
open Go.RowKit
structure Pause' (p : Prop) : Prop where
 out : p
def RowIs (w : World) (B : Nat) (T : TypeId) (cs : List Value) : Prop := w.heap[B]? = some (.cells cs.toArray T (0, 0))
section
variable {w w' : World} {B : Nat} {T : TypeId} {cs : List Value}
theorem RowIs.lt (h : RowIs w B T cs) : B < w.heap.size := (Array.getElem?_eq_some_iff.1 h).1
theorem RowIs.cell (h : RowIs w B T cs) {i : Nat} {v : Value} (hi : cs[i]? = some v) : w.cell? ⟨B, i, none⟩ = some v := by
 rw [cell_of_row w B i _ T _ h]; simpa using hi
theorem RowIs.frozen (h : RowIs w B T cs) (i : Nat) : w.frozen? ⟨B, i, none⟩ = false := frozen_of_row w B i _ T h
theorem RowIs.set (h : RowIs w B T cs) (i : Nat) (v : Value) : RowIs (w.setCell ⟨B, i, none⟩ v) B T (cs.set i v) := by
 unfold RowIs
 rw [heap_setCell_same w B i _ T v h]
 simp
theorem RowIs.other (h : RowIs w B T cs) {a : Addr} (ha : B ≠ a.block) (v : Value) : RowIs (w.setCell a v) B T cs := by
 unfold RowIs
 rw [heap_setCell_other w a B v ha]
 exact h
theorem RowIs.alloc (h : RowIs w B T cs) (o : Obj) : RowIs (w.alloc o) B T cs := by
 unfold RowIs
 rw [Below.heap_alloc w o B h.lt]
 exact h
theorem RowIs.new (w : World) (T : TypeId) (cs : List Value) : RowIs (w.alloc (.cells cs.toArray T (0, 0))) w.heap.size T cs := by
 unfold RowIs World.alloc
 simp
theorem RowIs.drew (h : RowIs w B T cs) : RowIs w.drew B T cs := h
theorem RowIs.drewN (h : RowIs w B T cs) (n : Nat) : RowIs (w.drewN n) B T cs := h
theorem RowIs.below (h : RowIs w B T cs) (hb : Below w.heap.size w w') : RowIs w' B T cs := (hb.block B h.lt).trans h
theorem RowIs.grown (h : RowIs w B T cs) {row : Option Nat} (hg : w.grownBy w' row) (hne : some B ≠ row) : RowIs w' B T cs := (hg.block B h.lt hne).trans h
end
theorem grown_trans {a b c : World} {row : Option Nat} (h : a.grownBy b row) (k : b.grownBy c row) : a.grownBy c row :=
 ⟨k.os.trans h.os, k.tape.trans h.tape, k.output.trans h.output, Nat.le_trans h.size k.size, fun i hi hne => (k.block i (Nat.lt_of_lt_of_le hi h.size) hne).trans (h.block i hi hne)⟩
theorem grown_setCell {a b : World} {B : Nat} (h : a.grownBy b (some B)) (i : Nat) (v : Value) : a.grownBy (b.setCell ⟨B, i, none⟩ v) (some B) :=
 ⟨h.os, h.tape, h.output, by simpa [World.setCell] using h.size, fun k hk hne => by rw [heap_setCell_other b _ k v (fun e => hne (by rw [e]))]; exact h.block k hk hne⟩
theorem grown_alloc {a b : World} {row : Option Nat} (h : a.grownBy b row) (o : Obj) : a.grownBy (b.alloc o) row :=
 grown_trans h (World.grownBy_alloc b o row)
theorem grown_drew {a b : World} {row : Option Nat} (h : a.grownBy b row) : a.grownBy b.drew row := ⟨h.os, h.tape, h.output, h.size, h.block⟩
theorem grown_drewN {a b : World} {row : Option Nat} (h : a.grownBy b row) (n : Nat) : a.grownBy (b.drewN n) row := ⟨h.os, h.tape, h.output, h.size, h.block⟩
def u32s (l : List Int) : List Value := l.map (Value.int .u32)
theorem u32s_length (l : List Int) : (u32s l).length = l.length := by simp [u32s]
theorem u32s_get (l : List Int) (i : Nat) (h : i < l.length) : (u32s l)[i]? = some (.int .u32 (l.getD i 0)) := by
 simp [u32s, h, List.getD_eq_getElem?_getD]
theorem u32s_set (l : List Int) (i : Nat) (x : Int) : (u32s l).set i (.int .u32 x) = u32s (l.set i x) := by
 simp [u32s, List.map_set]
def u8s (l : List Int) : List Value := l.map (Value.int .u8)
theorem u8s_get (l : List Int) (i : Nat) (h : i < l.length) : (u8s l)[i]? = some (.int .u8 (l.getD i 0)) := by
 simp [u8s, h, List.getD_eq_getElem?_getD]
section
variable {w w' : World} {B : Nat} {T : TypeId} {cs old : List Value}
theorem heap_setRow_other (w : World) (g k : Nat) (cs : Array Value) (h : k ≠ g) : (w.setRow g cs).heap[k]? = w.heap[k]? := by
 simp only [World.setRow, Array.getElem?_modify]
 rw [if_neg (fun e => h e.symm)]
theorem RowIs.put (h : RowIs w B T old) (cs : List Value) : RowIs (w.setRow B cs.toArray) B T cs := by
 unfold RowIs at *
 simp only [World.setRow, Array.getElem?_modify, if_true, h, Option.map_some]
theorem RowIs.putOther (h : RowIs w B T cs) {g : Nat} (hg : B ≠ g) (xs : Array Value) : RowIs (w.setRow g xs) B T cs := by
 unfold RowIs
 rw [heap_setRow_other w g B xs hg]
 exact h
theorem below_setRow {D : Nat} {a w : World} (h : Below D a w) {g : Nat} (hg : D ≤ g) (cs : Array Value) : Below D a (w.setRow g cs) :=
 h.trans ⟨rfl, rfl, rfl, by simp, fun k hk => heap_setRow_other _ _ _ _ (by omega)⟩
end
section
variable {P : Program} {o : Oper} {a : Act} {w : World} {B : Nat} {T : TypeId} {cs old : List Value}
theorem op_load_row (ty : TypeId) (x : Operand) (ho : o.op = .load ty x) (hx : a.eval x = .pointer (some ⟨B, 0, none⟩)) (hR : RowIs w B T cs) (d : TypeDesc)
 (hu : P.underlying ty = some d) (hd : (match d with | .struct _ | .array _ _ => true | _ => false) = true) (n : Nat) (hi : (P.info? ty).map (·.size) = some n) (hn : cs.length = n) :
 (execOp a.eval o).run P w = .ok (.value (.agg cs.toArray)) w := by
 unfold execOp
 simp only [ho, hx, Instr.loadAt, Instr.sureAddr, Sem.run_bind, Sem.run_pure, Result.andThen_ok, run_loadVar_row w B T ty cs.toArray (0, 0) d hR hu hd (by rw [hi, ← hn]; simp)]
theorem op_store_row (ty : TypeId) (x y : Operand) (ho : o.op = .store ty x y) (hx : a.eval x = .pointer (some ⟨B, 0, none⟩)) (hy : a.eval y = .agg cs.toArray) (hR : RowIs w B T old)
 (n : Nat) (hi : (P.info? ty).map (·.size) = some n) (hn : cs.length = n) (hold : old.length = n) (h1 : ∀ v ∈ cs, v.oneCell' = true) :
 (execOp a.eval o).run P w = .ok .skip (w.setRow B cs.toArray) := by
 unfold execOp
 simp only [ho, hx, hy, Instr.storeAt, Instr.sureAddr, Sem.run_bind, Sem.run_pure, Result.andThen_ok, run_storeVar_row w B T ty old.toArray cs.toArray hR (by rw [hi, ← hn]; simp) (by simp; omega) (by rw [Array.all_eq_true_iff_forall_mem]; intro v hv; exact h1 v (by simpa using hv))]
end
namespace FamRow
open Go.Fam
section
variable {P : Program} {ops : Array Oper} {C : Nat → World → Prop} {E : List Nat} {Q : Nat → Act → Prop} {k m : Nat} {o : Oper} {rest : List Oper} {a : Act}
theorem load_ (ty : TypeId) (x : Operand) (B : Nat) (T : TypeId) (cs : List Value) (d : TypeDesc) (n : Nat) (ho : o.op = .load ty x) (hx : a.eval x = .pointer (some ⟨B, 0, none⟩)) (hw : Region.wanted o (yielded ops a.tmps) = true) (hp : posOf E 0 k = none)
 (hu : P.underlying ty = some d) (hd : (match d with | .struct _ | .array _ _ => true | _ => false) = true) (hi : (P.info? ty).map (·.size) = some n) (hn : cs.length = n)
 (hR : ∀ m', inR ops E k m' = true → ∀ w, C m' w → RowIs w B T cs)
 (h : wpNat P ops C E Q (k + 1) m rest (a.put o.dst (.agg cs.toArray))) : wpNat P ops C E Q k m (o :: rest) a :=
 read_ _ hw hp (fun m' hm' w hw' => op_load_row ty x ho hx (hR m' hm' w hw') d hu hd n hi hn) h
theorem store_ (ty : TypeId) (x y : Operand) (B : Nat) (T : TypeId) (cs : List Value) (n : Nat) (ho : o.op = .store ty x y) (hx : a.eval x = .pointer (some ⟨B, 0, none⟩)) (hy : a.eval y = .agg cs.toArray) (hw : Region.wanted o (yielded ops a.tmps) = true) (hp : posOf E 0 k = some m)
 (hi : (P.info? ty).map (·.size) = some n) (hn : cs.length = n) (h1 : ∀ v ∈ cs, v.oneCell' = true)
 (hR : ∀ w, C m w → ∃ old, RowIs w B T old ∧ old.length = n ∧ C (m + 1) (w.setRow B cs.toArray))
 (h : wpNat P ops C E Q (k + 1) (m + 1) rest (a.put o.dst undef)) : wpNat P ops C E Q k m (o :: rest) a :=
 Fam.store_ hw hp (fun w hw' => let ⟨old, h2, h3, h4⟩ := hR w hw'; ⟨_, op_store_row ty x y ho hx hy h2 n hi hn h3 h1, h4⟩) h
end
end FamRow
theorem u32s_one (l : List Int) : ∀ v ∈ u32s l, v.oneCell' = true := by
 intro v hv
 obtain ⟨x, _, rfl⟩ := List.mem_map.1 hv
 rfl
theorem size8 : (Tryz.prog.info? 95).map (·.size) = some 8 := by kernel_rfl
theorem size16 : (Tryz.prog.info? 159).map (·.size) = some 16 := by kernel_rfl
end Go.Proofs.YtjlpjpjodhkpdaaGreatDoor
namespace Go.Proofs.YtjlpjpjodhkpdaaGreatDoor
def mixL (p q r s : Nat) (x y : Int) (v : List Int) : List Int :=
 let a := v.getD p 0; let b := v.getD q 0; let c := v.getD r 0; let d := v.getD s 0
 let a1 := hA a b x; let b1 := hB r16 r12 a b c d x; let c1 := hC r16 a b c d x; let d1 := hD r16 a b d x
 (((v.set p (hA a1 b1 y)).set q (hB r8 r7 a1 b1 c1 d1 y)).set r (hC r8 a1 b1 c1 d1 y)).set s (hD r8 a1 b1 d1 y)
theorem mixL_length (p q r s : Nat) (x y : Int) (v : List Int) : (mixL p q r s x y v).length = v.length := by simp [mixL]
def mixings : List (List Nat) := [[0, 4, 8, 12], [1, 5, 9, 13], [2, 6, 10, 14], [3, 7, 11, 15], [0, 5, 10, 15], [1, 6, 11, 12], [2, 7, 8, 13], [3, 4, 9, 14]]
def orders : List (List Nat) := [[0, 1, 2, 3, 4, 5, 6, 7, 8, 9, 10, 11, 12, 13, 14, 15], [14, 10, 4, 8, 9, 15, 13, 6, 1, 12, 0, 2, 11, 7, 5, 3], [11, 8, 12, 0, 5, 2, 15, 13, 10, 14, 3, 6, 7, 1, 9, 4], [7, 9, 3, 1, 13, 12, 11, 14, 2, 6, 5, 10, 4, 0, 15, 8], [9, 0, 5, 7, 2, 4, 10, 15, 14, 1, 11, 12, 6, 8, 3, 13], [2, 12, 6, 10, 0, 11, 8, 3, 4, 13, 7, 5, 15, 14, 1, 9], [12, 5, 1, 15, 14, 13, 4, 10, 0, 7, 6, 3, 9, 2, 8, 11], [13, 11, 7, 14, 12, 1, 3, 9, 5, 0, 15, 4, 8, 6, 2, 10], [6, 15, 14, 9, 11, 3, 0, 8, 12, 2, 13, 7, 1, 4, 10, 5], [10, 2, 8, 4, 7, 6, 1, 5, 15, 11, 9, 14, 3, 12, 13, 0]]
def mx (i j : Nat) : Nat := (mixings.getD i []).getD j 0
def od (r j : Nat) : Nat := (orders.getD r []).getD j 0
def mixAt (m : List Int) (r i : Nat) (v : List Int) : List Int := mixL (mx i 0) (mx i 1) (mx i 2) (mx i 3) (m.getD (od r (2 * i)) 0) (m.getD (od r (2 * i + 1)) 0) v
def roundL (m : List Int) (r : Nat) : Nat → List Int → List Int
 | 0, v => v
 | k + 1, v => mixAt m r k (roundL m r k v)
def roundsL (m : List Int) : Nat → List Int → List Int
 | 0, v => v
 | r + 1, v => roundL m r 8 (roundsL m r v)
theorem roundL_length (m : List Int) (r k : Nat) (v : List Int) : (roundL m r k v).length = v.length := by
 induction k with
 | zero => rfl
 | succ k ih => simp [roundL, mixAt, mixL_length, ih]
theorem roundsL_length (m : List Int) (r : Nat) (v : List Int) : (roundsL m r v).length = v.length := by
 induction r with
 | zero => rfl
 | succ r ih => simp [roundsL, roundL_length, ih]
def begins : List Int := [1779033703, 3144134277, 1013904242, 2773480762, 1359893119, 2600822924, 528734635, 1541459225]
end Go.Proofs.YtjlpjpjodhkpdaaGreatDoor
namespace Go.Proofs.YtjlpjpjodhkpdaaGreatDoor
open Go.RowKit
def set4 (p q r s : Nat) (a b c d : Int) (v : List Int) : Nat → List Int
 | 0 => v
 | 1 => v.set p a
 | 2 => (v.set p a).set q b
 | 3 => ((v.set p a).set q b).set r c
 | _ => (((v.set p a).set q b).set r c).set s d
theorem set4_length (p q r s : Nat) (a b c d : Int) (v : List Int) (m : Nat) : (set4 p q r s a b c d v m).length = v.length := by
 unfold set4; split <;> simp
theorem mix_any (p q r s : Nat) (h0 : p < 16) (h1 : q < 16) (h2 : r < 16) (h3 : s < 16) (v : List Int) (hv : v.length = 16) (x y : Int) (w : World) (B : Nat) (hR : RowIs w B 159 (u32s v))
 :
 Calls Tryz.prog 140 #[.agg #[.int .u8 p, .int .u8 q, .int .u8 r, .int .u8 s], .int .u32 x, .int .u32 y, .pointer (some ⟨B, 0, none⟩)] w fun e w' =>
  e = .returned (.tuple #[]) ∧ w.grownBy w' (some B) ∧ RowIs w' B 159 (u32s (mixL p q r s x y v)) := by
 have HV := Lib.hid hv
 have ca := hR.cell (u32s_get v p (by omega))
 have cb := hR.cell (u32s_get v q (by omega))
 have cc := hR.cell (u32s_get v r (by omega))
 have cd := hR.cell (u32s_get v s (by omega))
 have hB := hR.lt
 clear hv
 generalize ha : v.getD p 0 = a at *
 generalize hb : v.getD q 0 = b at *
 generalize hc : v.getD r 0 = c at *
 generalize hd : v.getD s 0 = d at *
 have Ha := Lib.hid ha; have Hb := Lib.hid hb; have Hc := Lib.hid hc; have Hd := Lib.hid hd
 clear ha hb hc hd
 go_enter Tryz.func140, Tryz.ntmps140
 go_wp2
 go_quiet (fail)
 go_wp2_with fail
 refine (half1 _ _ _ _ _ _).mono ?_
 rintro e w' ⟨rfl, rfl⟩
 clear ca cb cc cd
 go_wp2_with fail
 have hP : RowIs ((w.alloc (.cells #[.int .u8 p, .int .u8 q, .int .u8 r, .int .u8 s] 184)).drewN nq) w.heap.size 184 [.int .u8 p, .int .u8 q, .int .u8 r, .int .u8 s] := RowIs.new _ _ _
 have hR' : RowIs ((w.alloc (.cells #[.int .u8 p, .int .u8 q, .int .u8 r, .int .u8 s] 184)).drewN nq) B 159 (u32s v) := (hR.alloc _).drewN nq
 have hG : w.grownBy ((w.alloc (.cells #[.int .u8 p, .int .u8 q, .int .u8 r, .int .u8 s] 184)).drewN nq) (some B) := grown_drewN (grown_alloc (World.grownBy.refl _ _) _) nq
 generalize (w.alloc (.cells #[.int .u8 p, .int .u8 q, .int .u8 r, .int .u8 s] 184)).drewN nq = W at *
 obtain ⟨A, hA'⟩ : ∃ A, A = hA (hA a b x) (YtjlpjpjodhkpdaaGreatDoor.hB r16 r12 a b c d x) y := ⟨_, rfl⟩
 obtain ⟨D, hD'⟩ : ∃ D, D = hD r8 (hA a b x) (YtjlpjpjodhkpdaaGreatDoor.hB r16 r12 a b c d x) (hD r16 a b d x) y := ⟨_, rfl⟩
 obtain ⟨C, hC'⟩ : ∃ C, C = hC r8 (hA a b x) (YtjlpjpjodhkpdaaGreatDoor.hB r16 r12 a b c d x) (hC r16 a b c d x) (hD r16 a b d x) y := ⟨_, rfl⟩
 obtain ⟨B', hB'⟩ : ∃ B', B' = YtjlpjpjodhkpdaaGreatDoor.hB r8 r7 (hA a b x) (YtjlpjpjodhkpdaaGreatDoor.hB r16 r12 a b c d x) (hC r16 a b c d x) (hD r16 a b d x) y := ⟨_, rfl⟩
 have half2' : ∀ w, Calls Tryz.prog 141 #[.int .u32 (hA a b x), .int .u32 (YtjlpjpjodhkpdaaGreatDoor.hB r16 r12 a b c d x), .int .u32 (hC r16 a b c d x), .int .u32 (hD r16 a b d x), .int .u32 y, .int .i64 8, .int .i64 7] w fun e w' =>
  e = .returned (.tuple #[.int .u32 A, .int .u32 B', .int .u32 C, .int .u32 D]) ∧ w = w' := fun w => by rw [hA', hB', hC', hD']; exact half2 _ _ _ _ _ _
 have hend : mixL p q r s x y v = set4 p q r s A B' C D v 4 := by
  unfold mixL set4
  rw [Ha.out, Hb.out, Hc.out, Hd.out, hA', hB', hC', hD']; rfl
 have i0 : (p : Int) < 16 := by omega
 have i1 : (q : Int) < 16 := by omega
 have i2 : (r : Int) < 16 := by omega
 have i3 : (s : Int) < 16 := by omega
 have H2 := Lib.hid half2'; have HE := Lib.hid hend
 clear hA' hB' hC' hD' half2' hend
 refine Fam.wp_region_fam [20, 22, 24, 26] (fun m w' => RowIs w' w.heap.size 184 [.int .u8 p, .int .u8 q, .int .u8 r, .int .u8 s] ∧ w.grownBy w' (some B) ∧ RowIs w' B 159 (u32s (set4 p q r s A B' C D v m))) (by kernel_rfl) (by kernel_rfl) ⟨hP, grown_drew hG, hR'⟩ ?_
 refine Fam.any_ ?_ (by rfl) (by rfl) (fun w => ?_) ?_
 rotate_left
 · go_simp; rfl
 simp only [Act.put, List.setIfInBounds_toArray, List.set_cons_zero, List.set_cons_succ]
 refine Fam.read_ ?_ (by rfl) (by rfl) (fun m' _ u hu => ?_) ?_
 rotate_left
 · have c0 := hu.1.cell (i := 0) rfl; clear hu; go_simp; rfl
 simp only [Act.put, List.setIfInBounds_toArray, List.set_cons_zero, List.set_cons_succ]
 refine Fam.any_ ?_ (by rfl) (by rfl) (fun w => ?_) ?_
 rotate_left
 · go_simp; rfl
 simp only [Act.put, List.setIfInBounds_toArray, List.set_cons_zero, List.set_cons_succ]
 refine Fam.read_ ?_ (by rfl) (by rfl) (fun m' _ u hu => ?_) ?_
 rotate_left
 · have c0 := hu.1.cell (i := 1) rfl; clear hu; go_simp; rfl
 simp only [Act.put, List.setIfInBounds_toArray, List.set_cons_zero, List.set_cons_succ]
 refine Fam.any_ ?_ (by rfl) (by rfl) (fun w => ?_) ?_
 rotate_left
 · go_simp; rfl
 simp only [Act.put, List.setIfInBounds_toArray, List.set_cons_zero, List.set_cons_succ]
 refine Fam.read_ ?_ (by rfl) (by rfl) (fun m' _ u hu => ?_) ?_
 rotate_left
 · have c0 := hu.1.cell (i := 2) rfl; clear hu; go_simp; rfl
 simp only [Act.put, List.setIfInBounds_toArray, List.set_cons_zero, List.set_cons_succ]
 refine Fam.any_ ?_ (by rfl) (by rfl) (fun w => ?_) ?_
 rotate_left
 · go_simp; rfl
 simp only [Act.put, List.setIfInBounds_toArray, List.set_cons_zero, List.set_cons_succ]
 refine Fam.read_ ?_ (by rfl) (by rfl) (fun m' _ u hu => ?_) ?_
 rotate_left
 · have c0 := hu.1.cell (i := 3) rfl; clear hu; go_simp; rfl
 simp only [Act.put, List.setIfInBounds_toArray, List.set_cons_zero, List.set_cons_succ]
 refine Fam.any_ ?_ (by rfl) (by rfl) (fun w => ?_) ?_
 rotate_left
 · go_simp; rfl
 simp only [Act.put, List.setIfInBounds_toArray, List.set_cons_zero, List.set_cons_succ]
 refine Fam.any_ ?_ (by rfl) (by rfl) (fun w => ?_) ?_
 rotate_left
 · go_simp; rfl
 simp only [Act.put, List.setIfInBounds_toArray, List.set_cons_zero, List.set_cons_succ]
 refine Fam.any_ ?_ (by rfl) (by rfl) (fun w => ?_) ?_
 rotate_left
 · go_simp; rfl
 simp only [Act.put, List.setIfInBounds_toArray, List.set_cons_zero, List.set_cons_succ]
 refine Fam.any_ ?_ (by rfl) (by rfl) (fun w => ?_) ?_
 rotate_left
 · go_simp; rfl
 simp only [Act.put, List.setIfInBounds_toArray, List.set_cons_zero, List.set_cons_succ]
 refine Fam.any_ ?_ (by rfl) (by rfl) (fun w => ?_) ?_
 rotate_left
 · go_simp; rfl
 simp only [Act.put, List.setIfInBounds_toArray, List.set_cons_zero, List.set_cons_succ]
 refine Fam.call_ (.tuple #[.int .u32 A, .int .u32 B', .int .u32 C, .int .u32 D]) 141 ?_ (by rfl) (by rfl) (fun w => ?_) (fun m' _ u hu => ?_) ?_
 rotate_left
 · go_simp; rfl
 · exact (H2.out u).mono fun e u' ⟨he, hw⟩ => ⟨he, hw ▸ hu⟩
 simp only [Act.put, List.setIfInBounds_toArray, List.set_cons_zero, List.set_cons_succ]
 refine Fam.any_ ?_ (by rfl) (by rfl) (fun w => ?_) ?_
 rotate_left
 · go_simp; rfl
 simp only [Act.put, List.setIfInBounds_toArray, List.set_cons_zero, List.set_cons_succ]
 refine Fam.any_ ?_ (by rfl) (by rfl) (fun w => ?_) ?_
 rotate_left
 · go_simp; rfl
 simp only [Act.put, List.setIfInBounds_toArray, List.set_cons_zero, List.set_cons_succ]
 refine Fam.any_ ?_ (by rfl) (by rfl) (fun w => ?_) ?_
 rotate_left
 · go_simp; rfl
 simp only [Act.put, List.setIfInBounds_toArray, List.set_cons_zero, List.set_cons_succ]
 refine Fam.any_ ?_ (by rfl) (by rfl) (fun w => ?_) ?_
 rotate_left
 · go_simp; rfl
 simp only [Act.put, List.setIfInBounds_toArray, List.set_cons_zero, List.set_cons_succ]
 refine Fam.any_ ?_ (by rfl) (by rfl) (fun w => ?_) ?_
 rotate_left
 · go_simp; rfl
 simp only [Act.put, List.setIfInBounds_toArray, List.set_cons_zero, List.set_cons_succ]
 refine Fam.any_ ?_ (by rfl) (by rfl) (fun w => ?_) ?_
 rotate_left
 · go_simp; rfl
 simp only [Act.put, List.setIfInBounds_toArray, List.set_cons_zero, List.set_cons_succ]
 refine Fam.store_ (by rfl) (by rfl) (fun u hu => ?_) ?_
 · obtain ⟨hP2, hG2, hR2⟩ := hu
   have c := hR2.cell (u32s_get _ p (by rw [set4_length, HV.out]; omega)); have f := hR2.frozen p; have ff := hR2.set p (.int .u32 A); rw [u32s_set] at ff
   refine ⟨u.setCell ⟨B, p, none⟩ (.int .u32 A), ?_, hP2.other (by simp; omega) _, grown_setCell hG2 _ _, ff⟩
   clear hP2 hG2 hR2 ff
   go_simp
 simp only [Act.put, List.setIfInBounds_toArray, List.set_cons_zero, List.set_cons_succ]
 refine Fam.any_ ?_ (by rfl) (by rfl) (fun w => ?_) ?_
 rotate_left
 · go_simp; rfl
 simp only [Act.put, List.setIfInBounds_toArray, List.set_cons_zero, List.set_cons_succ]
 refine Fam.store_ (by rfl) (by rfl) (fun u hu => ?_) ?_
 · obtain ⟨hP2, hG2, hR2⟩ := hu
   have c := hR2.cell (u32s_get _ q (by rw [set4_length, HV.out]; omega)); have f := hR2.frozen q; have ff := hR2.set q (.int .u32 B'); rw [u32s_set] at ff
   refine ⟨u.setCell ⟨B, q, none⟩ (.int .u32 B'), ?_, hP2.other (by simp; omega) _, grown_setCell hG2 _ _, ff⟩
   clear hP2 hG2 hR2 ff
   go_simp
 simp only [Act.put, List.setIfInBounds_toArray, List.set_cons_zero, List.set_cons_succ]
 refine Fam.any_ ?_ (by rfl) (by rfl) (fun w => ?_) ?_
 rotate_left
 · go_simp; rfl
 simp only [Act.put, List.setIfInBounds_toArray, List.set_cons_zero, List.set_cons_succ]
 refine Fam.store_ (by rfl) (by rfl) (fun u hu => ?_) ?_
 · obtain ⟨hP2, hG2, hR2⟩ := hu
   have c := hR2.cell (u32s_get _ r (by rw [set4_length, HV.out]; omega)); have f := hR2.frozen r; have ff := hR2.set r (.int .u32 C); rw [u32s_set] at ff
   refine ⟨u.setCell ⟨B, r, none⟩ (.int .u32 C), ?_, hP2.other (by simp; omega) _, grown_setCell hG2 _ _, ff⟩
   clear hP2 hG2 hR2 ff
   go_simp
 simp only [Act.put, List.setIfInBounds_toArray, List.set_cons_zero, List.set_cons_succ]
 refine Fam.any_ ?_ (by rfl) (by rfl) (fun w => ?_) ?_
 rotate_left
 · go_simp; rfl
 simp only [Act.put, List.setIfInBounds_toArray, List.set_cons_zero, List.set_cons_succ]
 refine Fam.store_ (by rfl) (by rfl) (fun u hu => ?_) ?_
 · obtain ⟨hP2, hG2, hR2⟩ := hu
   have c := hR2.cell (u32s_get _ s (by rw [set4_length, HV.out]; omega)); have f := hR2.frozen s; have ff := hR2.set s (.int .u32 D); rw [u32s_set] at ff
   refine ⟨u.setCell ⟨B, s, none⟩ (.int .u32 D), ?_, hP2.other (by simp; omega) _, grown_setCell hG2 _ _, ff⟩
   clear hP2 hG2 hR2 ff
   go_simp
 simp only [Act.put, List.setIfInBounds_toArray, List.set_cons_zero, List.set_cons_succ]
 refine Fam.nil_ ?_
 rintro u ⟨hP2, hG2, hR2⟩
 go_end0
 exact ⟨rfl, hG2, by rw [HE.out]; exact hR2⟩
end Go.Proofs.YtjlpjpjodhkpdaaGreatDoor
namespace Go.Proofs.YtjlpjpjodhkpdaaGreatDoor
open Go.RowKit
def Lies (D : Nat) : Prop := 0 < D ∧ 1 < D ∧ 2 < D
structure Tabs (w : World) : Prop where
 size : Lies w.heap.size
 begin : ∀ i, i < 8 → w.cell? ⟨0, i, none⟩ = some (.int .u32 (begins.getD i 0))
 mixing : ∀ i j, i < 8 → j < 4 → w.cell? ⟨1, i * 4 + j, none⟩ = some (.int .u8 (mx i j))
 order : ∀ r j, r < 10 → j < 16 → w.cell? ⟨2, r * 16 + j, none⟩ = some (.int .u8 (od r j))
theorem Tabs.below {w u : World} {D : Nat} (h : Tabs w) (hb : Below D w u) (hD : Lies D) : Tabs u :=
 ⟨⟨Nat.lt_of_lt_of_le h.size.1 hb.size, Nat.lt_of_lt_of_le h.size.2.1 hb.size, Nat.lt_of_lt_of_le h.size.2.2 hb.size⟩, fun i hi => (hb.cell (p := ⟨_, _, none⟩) hD.1).trans (h.begin i hi), fun i j hi hj => (hb.cell (p := ⟨_, _, none⟩) hD.2.1).trans (h.mixing i j hi hj), fun r j hr hj => (hb.cell (p := ⟨_, _, none⟩) hD.2.2).trans (h.order r j hr hj)⟩
theorem Tabs.drewN {w : World} (h : Tabs w) (n : Nat) : Tabs (w.drewN n) := ⟨h.size, h.begin, h.mixing, h.order⟩
theorem mx_lt : ∀ i, i < 8 → ∀ j, j < 4 → mx i j < 16 := by decide
theorem od_lt : ∀ r, r < 10 → ∀ j, j < 16 → od r j < 16 := by decide
def byt (s : ByteArray) (j : Nat) : Int := ((s.data.toList.getD j 0).toNat : Int)
theorem byt_range (s : ByteArray) (j : Nat) : 0 ≤ byt s j ∧ byt s j < 256 := by
 unfold byt
 have := (s.data.toList.getD j 0).toNat_lt
 omega
theorem byt_at (s : ByteArray) (j : Nat) (h : j < s.size) : ((s[j]'h).toNat : Int) = byt s j := by
 unfold byt
 rw [List.getD_eq_getElem?_getD, List.getElem?_eq_getElem (by rw [Array.length_toList]; exact h)]
 rfl
def wacc (s : ByteArray) (i : Nat) : Nat → Int
 | 0 => 0
 | n + 1 => wacc s i n * 256 + byt s (4 * i + (3 - n))
def word (s : ByteArray) (i : Nat) : Int := wacc s i 4
theorem wacc0 (s : ByteArray) (i : Nat) : wacc s i 0 = 0 := rfl
theorem wacc1 (s : ByteArray) (i : Nat) : wacc s i 1 = wacc s i 0 * 256 + byt s (4 * i + 3) := rfl
theorem wacc2 (s : ByteArray) (i : Nat) : wacc s i 2 = wacc s i 1 * 256 + byt s (4 * i + 2) := rfl
theorem wacc3 (s : ByteArray) (i : Nat) : wacc s i 3 = wacc s i 2 * 256 + byt s (4 * i + 1) := rfl
theorem wacc4 (s : ByteArray) (i : Nat) : wacc s i 4 = wacc s i 3 * 256 + byt s (4 * i) := rfl
theorem wacc_range (s : ByteArray) (i : Nat) : 0 ≤ wacc s i 0 ∧ wacc s i 0 < 1 ∧ 0 ≤ wacc s i 1 ∧ wacc s i 1 < 256 ∧ 0 ≤ wacc s i 2 ∧ wacc s i 2 < 65536 ∧ 0 ≤ wacc s i 3 ∧ wacc s i 3 < 16777216 ∧ 0 ≤ wacc s i 4 ∧ wacc s i 4 < 4294967296 := by
 have h0 := byt_range s (4 * i + 3)
 have h1 := byt_range s (4 * i + 2)
 have h2 := byt_range s (4 * i + 1)
 have h3 := byt_range s (4 * i)
 rw [wacc4, wacc3, wacc2, wacc1, wacc0]
 omega
theorem word_eq (s : ByteArray) (i : Nat) : word s i = byt s (4 * i) + 256 * byt s (4 * i + 1) + 65536 * byt s (4 * i + 2) + 16777216 * byt s (4 * i + 3) := by
 rw [word, wacc4, wacc3, wacc2, wacc1, wacc0]
 omega
theorem or_byte (a b : Int) (ha : 0 ≤ a) (ha' : a < 16777216) (hb : 0 ≤ b) (hb' : b < 256) : bits .or .u32 (a * 256 % 4294967296) b = a * 256 + b := by
 have h1 : a * 256 % 4294967296 = a * 256 := by omega
 rw [h1]
 exact bits_join .u32 32 (by decide) (fun n h0 h1 => by rw [IntKind.wrap_u32]; omega) 8 _ _ (by omega) (by omega) (by omega) hb (by omega) (by omega)
def mpart (s : ByteArray) (k : Nat) : List Int := (List.range k).map (word s) ++ List.replicate (16 - k) 0
def wordsL (s : ByteArray) : List Int := (List.range 16).map (word s)
theorem mpart_length (s : ByteArray) (k : Nat) (hk : k ≤ 16) : (mpart s k).length = 16 := by simp [mpart]; omega
theorem mpart_at (s : ByteArray) (k : Nat) (hk : k < 16) (x : Int) : ((mpart s k).set k x).getD k 0 = x := by
 rw [List.getD_eq_getElem?_getD, List.getElem?_set_self (by rw [mpart_length s k (by omega)]; exact hk)]; rfl
theorem mpart_zero (s : ByteArray) (k : Nat) : (mpart s k).set k 0 = mpart s k := by
 apply List.ext_getElem?
 intro i
 rw [List.getElem?_set]
 split
 · rename_i h
   subst h
   split
   · rename_i h
     have hl : k < (mpart s k).length := h
     rw [List.getElem?_eq_getElem hl]
     simp [mpart]
   · rename_i h
     rw [List.getElem?_eq_none (by omega)]
 · rfl
theorem mpart_next (s : ByteArray) (k : Nat) (hk : k < 16) : (mpart s k).set k (word s k) = mpart s (k + 1) := by
 have h16 : 16 - k = (16 - (k + 1)) + 1 := by omega
 unfold mpart
 rw [h16, List.replicate_succ, List.set_append_right _ _ (by simp), List.range_succ]
 simp
theorem mpart_all (s : ByteArray) : mpart s 16 = wordsL s := by simp [mpart, wordsL]
def vpart (h : List Int) (k : Nat) : List Int := h.take k ++ List.replicate (8 - k) 0 ++ (begins.take k ++ List.replicate (8 - k) 0)
theorem vpart_length (h : List Int) (hh : h.length = 8) (k : Nat) (hk : k ≤ 8) : (vpart h k).length = 16 := by
 simp [vpart, begins, hh]; omega
def vset (h : List Int) (k : Nat) : Nat → List Int
 | 0 => vpart h k
 | 1 => (vpart h k).set k (h.getD k 0)
 | _ => ((vpart h k).set k (h.getD k 0)).set (k + 8) (begins.getD k 0)
theorem vset_length (h : List Int) (hh : h.length = 8) (k m : Nat) (hk : k ≤ 8) : (vset h k m).length = 16 := by
 unfold vset; split <;> simp [vpart_length h hh k hk]
theorem part_set (l : List Int) (k n : Nat) (hl : l.length = n) (hk : k < n) : (l.take k ++ List.replicate (n - k) 0).set k (l.getD k 0) = l.take (k + 1) ++ List.replicate (n - (k + 1)) 0 := by
 have h1 : n - k = (n - (k + 1)) + 1 := by omega
 have hkl : k < l.length := by omega
 have h2 : l.take (k + 1) = l.take k ++ [l[k]] := by rw [List.take_succ_eq_append_getElem hkl]
 rw [h1, List.replicate_succ, List.set_append_right _ _ (by simp; omega)]
 simp [List.getD_eq_getElem?_getD, List.getElem?_eq_getElem hkl, Nat.min_eq_left (Nat.le_of_lt hkl)]
 rw [h2, List.append_assoc]
 rfl
theorem vset_next (h : List Int) (hh : h.length = 8) (k : Nat) (hk : k < 8) : vset h k 2 = vpart h (k + 1) := by
 show ((vpart h k).set k (h.getD k 0)).set (k + 8) (begins.getD k 0) = _
 unfold vpart
 rw [List.set_append_left _ _ (by simp; omega), part_set h k 8 hh hk, List.set_append_right _ _ (by simp; omega)]
 have e : k + 8 - (h.take (k + 1) ++ List.replicate (8 - (k + 1)) 0).length = k := by simp [hh]; omega
 rw [e, part_set begins k 8 rfl hk]
theorem vpart_zero (h : List Int) : vpart h 0 = List.replicate 16 0 := by simp [vpart]
theorem vpart_all (h : List Int) (hh : h.length = 8) : vpart h 8 = h ++ begins := by
 simp [vpart, begins, List.take_of_length_le (Nat.le_of_eq hh)]
def vstart (h : List Int) (t : Int) (last : Bool) : List Int :=
 let v := h ++ begins
 let w := (v.set 12 (xr (v.getD 12 0) (t % 4294967296))).set 13 (xr (v.getD 13 0) (t / 4294967296 % 4294967296))
 if last then w.set 14 (xr 4294967295 (v.getD 14 0)) else w
theorem vstart_length (h : List Int) (hh : h.length = 8) (t : Int) (last : Bool) : (vstart h t last).length = 16 := by
 unfold vstart; split <;> simp [hh, begins]
def blockL (h : List Int) (s : ByteArray) (t : Int) (last : Bool) : List Int :=
 let v := roundsL (wordsL s) 10 (vstart h t last)
 (List.range 8).map fun i => xr (h.getD i 0) (xr (v.getD i 0) (v.getD (i + 8) 0))
def hpart (h v : List Int) (k : Nat) : List Int := (List.range 8).map fun i => if i < k then xr (h.getD i 0) (xr (v.getD i 0) (v.getD (i + 8) 0)) else h.getD i 0
theorem list8 (l : List Int) (h : l.length = 8) : ∃ a b c d e f g i : Int, l = [a, b, c, d, e, f, g, i] := by
 match l, h with
 | [a, b, c, d, e, f, g, i], _ => exact ⟨a, b, c, d, e, f, g, i, rfl⟩
theorem hpart_length (h v : List Int) (k : Nat) : (hpart h v k).length = 8 := by simp [hpart]
theorem hpart_get (h v : List Int) (k i : Nat) (hi : i < 8) : (hpart h v k).getD i 0 = if i < k then xr (h.getD i 0) (xr (v.getD i 0) (v.getD (i + 8) 0)) else h.getD i 0 := by
 unfold hpart
 rw [List.getD_eq_getElem?_getD, List.getElem?_map, List.getElem?_range hi]
 rfl
theorem hpart_zero (h v : List Int) (hh : h.length = 8) : hpart h v 0 = h := by
 apply List.ext_getElem
 · simp [hpart, hh]
 · intro i h1 h2
   simp [hpart, List.getD_eq_getElem?_getD, List.getElem?_eq_getElem h2]
theorem hpart_next (h v : List Int) (k : Nat) (hk : k < 8) : (hpart h v k).set k (xr (h.getD k 0) (xr (v.getD k 0) (v.getD (k + 8) 0))) = hpart h v (k + 1) := by
 apply List.ext_getElem
 · simp [hpart]
 · intro i h1 h2
   rw [List.getElem_set]
   split
   · rename_i e
     subst e
     simp [hpart]
   · rename_i e
     have : (i < k) = (i < k + 1) := by
      have : i ≠ k := fun h => e h.symm
      simp; omega
     simp [hpart, this]
theorem hpart_all (h : List Int) (s : ByteArray) (t : Int) (last : Bool) : hpart h (roundsL (wordsL s) 10 (vstart h t last)) 8 = blockL h s t last := by
 unfold hpart blockL
 refine List.map_congr_left fun i hi => ?_
 rw [if_pos (List.mem_range.1 hi)]
theorem blockL_length (h : List Int) (s : ByteArray) (t : Int) (last : Bool) : (blockL h s t last).length = 8 := by simp [blockL]
end Go.Proofs.YtjlpjpjodhkpdaaGreatDoor
