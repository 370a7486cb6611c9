/- CHAINS, IN PLAIN LEAN: what the functions of chapter 04 come to. -/
import Derived.Test.YtnigomohlgcojaaDoorLumpA
import Derived.Test.YtnigomohlgcojaaDoorChain
set_option linter.unusedVariables false
set_option linter.unusedSimpArgs false
namespace Go.Proofs.YtnigomohlgcojaaDoor
open Go.RowKit Go.Proofs.YtnigomohlgcojaaDoor.Q Go.Proofs.YtnigomohlgcojaaDoorW.PrintWords

abbrev Lk := S40
/-- What is summed. -/
def inB (p b : ByteArray) : ByteArray := ((⟨#[3]⟩ : ByteArray) ++ textB p) ++ textB b
def inputR (p b : ByteArray) : ByteArray × Int := if p.size ≤ 65535 ∧ b.size ≤ 65535 then (inB p b, 0) else (⟨#[]⟩, 4)
def nextR (p b : ByteArray) : ByteArray × Int := if p.size ≤ 65535 ∧ b.size ≤ 65535 then (sumB (inB p b), 0) else (⟨#[]⟩, 4)
theorem inB_size (p b : ByteArray) : (inB p b).size ≤ p.size + b.size + 7 := by
  unfold inB
  rw [ByteArray.size_append, ByteArray.size_append]
  have := textB_size p; have := textB_size b
  show 1 + _ + _ ≤ _
  omega
theorem inB_ge (p b : ByteArray) : p.size + b.size + 3 ≤ (inB p b).size := by
  unfold inB textB lenB
  rw [ByteArray.size_append, ByteArray.size_append, ByteArray.size_append, ByteArray.size_append, strOfNums_size, strOfNums_size]
  have hl : ∀ n, 1 ≤ (lenL n).length := fun n => by unfold lenL; split <;> simp
  have := hl p.size; have := hl b.size
  show _ ≤ 1 + _ + _
  omega
theorem textR_1 {s : ByteArray} (h : s.size ≤ 65535) : textR s = (textB s, 0) := by unfold textR; rw [if_pos h]
theorem textR_2 {s : ByteArray} (h : ¬ s.size ≤ 65535) : textR s = (⟨#[]⟩, 4) := by unfold textR; rw [if_neg h]
theorem input_of (p b : ByteArray) (F : Option (ByteArray × Int)) (hF : F = (some (textR p)).bind fun x => (some (textR b)).bind fun y => (if x.2 = 0 then (if y.2 = 0 then (if 1 + x.1.size ≤ 9223372036854775807 then (if ((⟨#[3]⟩ : ByteArray) ++ x.1).size + y.1.size ≤ 9223372036854775807 then (some (((⟨#[3]⟩ : ByteArray) ++ x.1) ++ y.1, 0)) else (none)) else (none)) else (some ((⟨#[]⟩ : ByteArray), 4))) else (some ((⟨#[]⟩ : ByteArray), 4)))) :
    F = some (inputR p b) := by
  have h1 := textB_size p; have h2 := textB_size b
  subst hF
  unfold inputR
  by_cases hp : p.size ≤ 65535
  · by_cases hb : b.size ≤ 65535
    · rw [textR_1 hp, textR_1 hb]
      simp only [Option.bind_some, if_true]
      rw [if_pos (show 1 + (textB p).size ≤ 9223372036854775807 by omega), if_pos (by rw [ByteArray.size_append]; show 1 + _ + _ ≤ _; omega), if_pos (show p.size ≤ 65535 ∧ b.size ≤ 65535 from ⟨hp, hb⟩)]
      rfl
    · rw [textR_1 hp, textR_2 hb, if_neg (show ¬(p.size ≤ 65535 ∧ b.size ≤ 65535) from fun h => hb h.2)]
      rfl
  · rw [textR_2 hp, if_neg (show ¬(p.size ≤ 65535 ∧ b.size ≤ 65535) from fun h => hp h.1)]
    rfl
theorem input_f (p b : ByteArray) : chain_Input.f p b = some (inputR p b) := by
  refine input_of p b _ ?_
  unfold chain_Input.f
  rw [text_f, text_f]
theorem rinput_f (p b : ByteArray) : cartoucheref04_Input.f p b = some (inputR p b) := by
  refine input_of p b _ ?_
  unfold cartoucheref04_Input.f
  rw [rtext_f, rtext_f]
theorem sumF_eq (a : ByteArray) (h : a.size ≤ 562949953421312) : sumF a = some (sumB a) := by unfold sumF; rw [if_pos h]
theorem sum_inB {p b : ByteArray} (h : p.size ≤ 65535 ∧ b.size ≤ 65535) : sumF (inB p b) = some (sumB (inB p b)) := sumF_eq _ (by have := inB_size p b; omega)
theorem next_f (p b : ByteArray) : chain_Next.f p b = some (nextR p b) := by
  unfold chain_Next.f blake_Sum.f
  rw [input_f]
  unfold inputR nextR
  simp only [Option.bind_some]
  by_cases h : p.size ≤ 65535 ∧ b.size ≤ 65535
  · simp only [if_pos h, if_true, sum_inB h, Option.bind_some]
  · simp only [if_neg h, if_neg (show ¬ (4 : Int) = 0 by decide)]
theorem rnext_f (p b : ByteArray) : cartoucheref04_Next.f p b = some (nextR p b) := by
  unfold cartoucheref04_Next.f cartoucheref02_Sum.f
  rw [rinput_f]
  unfold inputR nextR
  simp only [Option.bind_some]
  by_cases h : p.size ≤ 65535 ∧ b.size ≤ 65535
  · simp only [if_pos h, if_true, sum_inB h, Option.bind_some]
  · simp only [if_neg h, if_neg (show ¬ (4 : Int) = 0 by decide)]
theorem nextB_eq (p b : ByteArray) : nextB p b = (nextR p b).1 := by unfold nextB; rw [next_f]; rfl

/-! ### Heads and links -/
def headR : ByteArray → List ByteArray → ByteArray × Int
  | p, [] => (p, 0)
  | p, b :: r => if (nextR p b).2 = 0 then headR (nextR p b).1 r else (⟨#[]⟩, (nextR p b).2)
theorem eachF_eq : ∀ (p : ByteArray) (l : List ByteArray), eachF p l = some (headR p l)
  | _, [] => rfl
  | p, b :: r => by
    unfold eachF headR
    rw [next_f]
    simp only [Option.bind_some]
    by_cases h : (nextR p b).2 = 0
    · rw [if_pos h, if_pos h, eachF_eq]
    · rw [if_neg h, if_neg h]
theorem head_f (l : List ByteArray) (h : l.length ≤ 9223372036854775806) : chain_Head.f l = some (headR ⟨#[]⟩ l) := by
  unfold chain_Head.f
  rw [if_pos h, eachF_eq]
def linksR (l : List ByteArray) : List Lk × Int := if (headR ⟨#[]⟩ l).2 = 0 then (linksL ⟨#[]⟩ l, 0) else ([], (headR ⟨#[]⟩ l).2)
theorem links_f (l : List ByteArray) (h : l.length ≤ 4294967296) : chain_Links.f l = some (linksR l) := by
  unfold chain_Links.f linksR
  rw [if_pos h, eachF_eq]
  simp only [Option.bind_some]
  split <;> rfl
theorem rhead_l0 (l : List ByteArray) (hl : l.length ≤ 9223372036854775806) : ∀ (d k : Nat) (p : ByteArray), k + d = l.length → Ev (fun n => cartoucheref04_Head.l0 n l p (k : Int)) (headR p (l.drop k))
  | 0, k, p, hk => by
    obtain rfl : k = l.length := by omega
    rw [List.drop_length]
    refine Ev.step (f := fun _ => some (p, (0 : Int))) (fun n => ?_) (Ev.now _)
    simp only [cartoucheref04_Head.l0]
    rw [if_neg (by omega)]
  | d + 1, k, p, hk => by
    have ih := rhead_l0 l hl d (k + 1) (nextR p (l.getD k ByteArray.empty)).1 (by omega)
    rw [drop_getD l k (by omega)]
    unfold headR
    by_cases h : (nextR p (l.getD k ByteArray.empty)).2 = 0
    · rw [if_pos h]
      refine Ev.step (fun n => ?_) ih
      simp only [cartoucheref04_Head.l0]
      rw [if_pos (by omega), if_pos (by omega), rd_nat, rnext_f]
      simp only [Option.bind_some]
      rw [if_pos h, wrap_id (by omega) (by omega)]
      rfl
    · rw [if_neg h]
      refine Ev.step (f := fun _ => some _) (fun n => ?_) (Ev.now _)
      simp only [cartoucheref04_Head.l0]
      rw [if_pos (by omega), if_pos (by omega), rd_nat, rnext_f]
      simp only [Option.bind_some]
      rw [if_neg h]
theorem rhead_f (l : List ByteArray) (hl : l.length ≤ 9223372036854775806) : Ev (fun n => cartoucheref04_Head.f n l) (headR ⟨#[]⟩ l) := rhead_l0 l hl l.length 0 ⟨#[]⟩ (by omega)
theorem rlinks_l0 (l : List ByteArray) (hl : l.length ≤ 4294967296) : ∀ (d k : Nat) (p : ByteArray) (xs : List Lk), k + d = l.length → xs.length = k → Ev (fun n => cartoucheref04_Links.l0 n l xs p (k : Int)) (xs ++ linksL p (l.drop k), (0 : Int))
  | 0, k, p, xs, hk, hx => by
    obtain rfl : k = l.length := by omega
    rw [List.drop_length]
    refine Ev.step (f := fun _ => some (xs ++ linksL p [], (0 : Int))) (fun n => ?_) (Ev.now _)
    simp only [cartoucheref04_Links.l0]
    rw [if_neg (by omega)]
    simp [linksL]
  | d + 1, k, p, xs, hk, hx => by
    have ih := rlinks_l0 l hl d (k + 1) (nextR p (l.getD k ByteArray.empty)).1 (xs ++ [⟨p, l.getD k ByteArray.empty⟩]) (by omega) (by simp; omega)
    have e : xs ++ linksL p (l.drop k) = (xs ++ [⟨p, l.getD k ByteArray.empty⟩]) ++ linksL (nextR p (l.getD k ByteArray.empty)).1 (l.drop (k + 1)) := by
      rw [drop_getD l k (by omega), linksL, nextB_eq, List.append_assoc]
      rfl
    rw [e]
    refine Ev.step (fun n => ?_) ih
    simp only [cartoucheref04_Links.l0]
    rw [if_pos (by omega), if_pos (by omega), if_pos (by omega), rd_nat, rnext_f]
    simp only [Option.bind_some]
    rw [wrap_id (by omega) (by omega)]
    rfl
theorem rlinks_f (l : List ByteArray) (hl : l.length ≤ 4294967296) : Ev (fun n => cartoucheref04_Links.f n l) (linksR l) := by
  unfold cartoucheref04_Links.f linksR
  refine Ev.bind (rhead_f l (by omega)) ?_
  by_cases h : (headR ⟨#[]⟩ l).2 = 0
  · simp only [if_pos h]
    exact rlinks_l0 l hl l.length 0 ⟨#[]⟩ [] (by omega) rfl
  · simp only [if_neg h]
    exact Ev.now _

/-! ### Links read -/
theorem rdT_nat (l : List Lk) (i : Nat) : rd_T40 l (i : Int) = l.getD i z40 := by
  unfold rd_T40
  rw [Int.toNat_natCast]
theorem dropT (l : List Lk) (i : Nat) (h : i < l.length) : l.drop i = l.getD i z40 :: l.drop (i + 1) := by
  rw [List.drop_eq_getElem_cons h, List.getD_eq_getElem?_getD, List.getElem?_eq_getElem h]
  rfl
theorem lk_eq {x y : Lk} : (!((x.f0.toList) == (y.f0.toList)) || (!((x.f1.toList) == (y.f1.toList)))) = true ↔ x ≠ y := by
  obtain ⟨a, b⟩ := x
  obtain ⟨c, d⟩ := y
  simp only [Bool.or_eq_true, Bool.not_eq_true', beq_eq_false_iff_ne, ne_eq, S40.mk.injEq, toList_inj]
  constructor
  · rintro h ⟨rfl, rfl⟩
    simp at h
  · intro h
    by_cases h1 : a = c
    · exact .inr fun h2 => h ⟨h1, h2⟩
    · exact .inl h1
theorem rsame_l0 (x y : List Lk) (hl : x.length = y.length) (hx : x.length ≤ 9223372036854775806) : ∀ (d k : Nat), k + d = x.length → x.drop k = y.drop k → Ev (fun n => cartoucheref04_Same.l0 n x y (k : Int)) true
  | 0, k, hk, _ => by
    refine Ev.step (f := fun _ => some true) (fun n => ?_) (Ev.now _)
    simp only [cartoucheref04_Same.l0]
    rw [if_neg (by omega)]
  | d + 1, k, hk, he => by
    rw [dropT x k (by omega), dropT y k (by omega)] at he
    obtain ⟨h1, h2⟩ := List.cons.inj he
    have ih := rsame_l0 x y hl hx d (k + 1) (by omega) h2
    refine Ev.step (fun n => ?_) ih
    simp only [cartoucheref04_Same.l0]
    rw [if_pos (by omega), if_pos (by omega), if_pos (by omega), rdT_nat, rdT_nat, if_neg (fun h => lk_eq.1 h h1), wrap_id (by omega) (by omega)]
    rfl
theorem rsame_f (x : List Lk) (hx : x.length ≤ 9223372036854775806) : Ev (fun n => cartoucheref04_Same.f n x x) true := by
  unfold cartoucheref04_Same.f
  simp only [if_true]
  exact rsame_l0 x x rfl hx x.length 0 (by omega) rfl

/-! ### A chain checked -/
def chkR (h : ByteArray) : ByteArray → List Lk → Int
  | p, [] => if p = h then 0 else 13
  | p, x :: r => if x.f0 = p then (if (nextR p x.f1).2 = 0 then chkR h (nextR p x.f1).1 r else (nextR p x.f1).2) else 15
theorem check_l0 (l : List Lk) (h : ByteArray) (hl : l.length ≤ 9223372036854775806) : ∀ (d k : Nat) (p : ByteArray), k + d = l.length →
    Ev (fun n => chain_Check.l0 n l h p (l.length : Int) (k : Int)) (chkR h p (l.drop k)) ∧ Ev (fun n => cartoucheref04_Check.l0 n l h p (k : Int)) (chkR h p (l.drop k))
  | 0, k, p, hk => by
    obtain rfl : k = l.length := by omega
    rw [List.drop_length]
    unfold chkR
    constructor
    · refine Ev.step (f := fun _ => some _) (fun n => ?_) (Ev.now _)
      simp only [chain_Check.l0]
      rw [if_neg (by omega)]
      simp only [toList_inj]
      split <;> rfl
    · refine Ev.step (f := fun _ => some _) (fun n => ?_) (Ev.now _)
      simp only [cartoucheref04_Check.l0]
      rw [if_neg (by omega)]
      simp only [toList_inj]
      split <;> rfl
  | d + 1, k, p, hk => by
    have ih := check_l0 l h hl d (k + 1) (nextR p (l.getD k z40).f1).1 (by omega)
    rw [dropT l k (by omega)]
    unfold chkR
    by_cases h1 : (l.getD k z40).f0 = p
    · rw [if_pos h1]
      by_cases h2 : (nextR p (l.getD k z40).f1).2 = 0
      · rw [if_pos h2]
        refine ⟨Ev.step (fun n => ?_) ih.1, Ev.step (fun n => ?_) ih.2⟩
        · simp only [chain_Check.l0]
          rw [if_pos (by omega), if_pos (by omega), if_pos (by omega), rdT_nat, if_pos (toList_inj.2 h1), next_f]
          simp only [Option.bind_some]
          rw [if_pos h2, wrap_id (by omega) (by omega)]
          rfl
        · simp only [cartoucheref04_Check.l0]
          rw [if_pos (by omega), if_pos (by omega), rdT_nat, if_pos (toList_inj.2 h1), rnext_f]
          simp only [Option.bind_some]
          rw [if_pos h2, wrap_id (by omega) (by omega)]
          rfl
      · rw [if_neg h2]
        refine ⟨Ev.step (f := fun _ => some _) (fun n => ?_) (Ev.now _), Ev.step (f := fun _ => some _) (fun n => ?_) (Ev.now _)⟩
        · simp only [chain_Check.l0]
          rw [if_pos (by omega), if_pos (by omega), if_pos (by omega), rdT_nat, if_pos (toList_inj.2 h1), next_f]
          simp only [Option.bind_some]
          rw [if_neg h2]
        · simp only [cartoucheref04_Check.l0]
          rw [if_pos (by omega), if_pos (by omega), rdT_nat, if_pos (toList_inj.2 h1), rnext_f]
          simp only [Option.bind_some]
          rw [if_neg h2]
    · rw [if_neg h1]
      refine ⟨Ev.step (f := fun _ => some _) (fun n => ?_) (Ev.now _), Ev.step (f := fun _ => some _) (fun n => ?_) (Ev.now _)⟩
      · simp only [chain_Check.l0]
        rw [if_pos (by omega), if_pos (by omega), if_pos (by omega), rdT_nat, if_neg (fun h => h1 (toList_inj.1 h))]
      · simp only [cartoucheref04_Check.l0]
        rw [if_pos (by omega), if_pos (by omega), rdT_nat, if_neg (fun h => h1 (toList_inj.1 h))]
theorem check_f (l : List Lk) (h : ByteArray) (hl : l.length ≤ 9223372036854775806) : Ev (fun n => chain_Check.f n l h) (chkR h ⟨#[]⟩ l) := (check_l0 l h hl l.length 0 ⟨#[]⟩ (by omega)).1
theorem rcheck_f (l : List Lk) (h : ByteArray) (hl : l.length ≤ 9223372036854775806) : Ev (fun n => cartoucheref04_Check.f n l h) (chkR h ⟨#[]⟩ l) := (check_l0 l h hl l.length 0 ⟨#[]⟩ (by omega)).2
/-- Links are checked by the head of their bodies, by no other one. -/
theorem chk_links (h : ByteArray) : ∀ (p : ByteArray) (l : List ByteArray), (headR p l).2 = 0 → chkR h p (linksL p l) = if (headR p l).1 = h then 0 else 13
  | p, [], _ => rfl
  | p, b :: r, h0 => by
    unfold headR at h0 ⊢
    unfold linksL chkR
    by_cases h1 : (nextR p b).2 = 0
    · rw [if_pos h1] at h0 ⊢
      rw [if_pos rfl, nextB_eq]
      simp only [if_pos h1]
      exact chk_links h _ r h0
    · rw [if_neg h1] at h0
      exact absurd h0 h1
theorem few_f (l : List ByteArray) : cartouchelaw04_few.f l = some (decide ((l.length : Int) ≤ 200)) := rfl
end Go.Proofs.YtnigomohlgcojaaDoor
