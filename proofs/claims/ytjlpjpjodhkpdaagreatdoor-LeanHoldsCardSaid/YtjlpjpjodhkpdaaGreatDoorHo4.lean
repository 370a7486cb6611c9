/- What true proofs of a history's own events show, holds in it. -/
import Derived.Test.YtjlpjpjodhkpdaaGreatDoorHo3
set_option linter.unusedVariables false
set_option linter.unusedSimpArgs false
namespace Go.Proofs.YtjlpjpjodhkpdaaGreatDoor
open Go.RowKit Go.Proofs.YtjlpjpjodhkpdaaGreatDoor.Q Go.Proofs.YtjlpjpjodhkpdaaGreatDoorW.PrintWords

/-- Two events clash: two ends of one transaction, or two writes of one value. -/
def clash (h : List Evn) (i k : Nat) : Bool :=
  (decide (4 ≤ (rd_T53 h i).f0) && (decide (4 ≤ (rd_T53 h k).f0) && decide ((rd_T53 h i).f1 = (rd_T53 h k).f1))) || (decide ((rd_T53 h i).f0 = 3) && (decide ((rd_T53 h k).f0 = 3) && decide ((rd_T53 h i).f3 = (rd_T53 h k).f3)))
def NoClash (h : List Evn) (n : Nat) : Prop := ∀ i, i < n → ∀ k, k < i → clash h i k = false
/-- Proofs that are events of h at their places. -/
def OwnP (h : List Evn) (P : List Prf) : Prop := ∀ p ∈ P, ∃ i : Nat, i < h.length ∧ p = ⟨(i : Int), rd_T53 h i, []⟩
section
variable {h : List Evn} {P : List Prf} (HN : NoClash h h.length) (H : OwnP h P)
include H
theorem found_own {q : Prf → Bool} (hq : isP q P = true) : ∃ i : Nat, i < h.length ∧ foundP q P = ⟨(i : Int), rd_T53 h i, []⟩ ∧ q ⟨(i : Int), rd_T53 h i, []⟩ = true := by
  unfold isP at hq
  unfold foundP
  cases hf : P.find? q with
  | none => rw [hf] at hq; cases hq
  | some p =>
    obtain ⟨i, hi, e⟩ := H p (List.mem_of_find?_eq_some hf)
    have := List.find?_some hf
    subst e
    exact ⟨i, hi, rfl, this⟩
include HN
theorem com_own {t c : Int} (hc : lnCommit P t = c) (h0 : 0 ≤ c) : comK h t = c := by
  unfold lnCommit at hc
  split at hc
  · rename_i hh
    obtain ⟨hp, h4⟩ := hh
    obtain ⟨i, hi, e, hq⟩ := found_own H hp
    rw [e] at hc h4
    dsimp only at hc h4
    subst hc
    have ht : (rd_T53 h i).f1 = t := by
      unfold isEnd at hq
      simp only [Bool.and_eq_true, decide_eq_true_eq] at hq
      exact hq.1
    have hE : endK h t i = true := by unfold endK; simp [ht, h4]
    have hff : firstFrom (endK h t) 0 h.length = i := firstFrom_hit _ _ 0 i (Nat.zero_le _) (by omega) (fun j _ hj => by
      cases hb : endK h t j with
      | false => rfl
      | true =>
        have hc := HN i hi j hj
        unfold endK at hb
        simp only [Bool.and_eq_true, Bool.or_eq_true, decide_eq_true_eq] at hb
        have : 4 ≤ (rd_T53 h j).f0 := by omega
        unfold clash at hc
        rw [h4, ht, hb.1, decide_eq_true this] at hc
        simp at hc) hE
    unfold comK
    rw [hff, if_pos ⟨by omega, h4⟩]
  · omega
theorem wr_own {key val : ByteArray} (hp : isP (isWr key val) P = true) : ∃ i : Nat, i < h.length ∧ foundP (isWr key val) P = ⟨(i : Int), rd_T53 h i, []⟩ ∧ firstFrom (wrK h key val) 0 h.length = i := by
  obtain ⟨i, hi, e, hq⟩ := found_own H hp
  unfold isWr at hq
  simp only [Bool.and_eq_true, decide_eq_true_eq] at hq
  obtain ⟨h3, hk, hv⟩ := hq
  refine ⟨i, hi, e, firstFrom_hit _ _ 0 i (Nat.zero_le _) (by omega) (fun j _ hj => ?_) (by unfold wrK; simp [h3, hk, hv])⟩
  cases hb : wrK h key val j with
  | false => rfl
  | true =>
    have hc := HN i hi j hj
    unfold wrK at hb
    simp only [Bool.and_eq_true, decide_eq_true_eq] at hb
    unfold clash at hc
    rw [h3, hb.1, hv, hb.2.2] at hc
    simp at hc
theorem holds_own (A0 : Option Addr) (c0 : Nat) (e0 e1 e2 e3 e4 : Int) (w : World) (hr : Kd.C k53 w A0 h.length h) (hl : h.length ≤ 9223372036854775806) (he : lnEdge P ⟨e0, e1, e2, e3, e4⟩ = true) :
    Calls Tryz.prog 30 #[.slice A0 h.length c0, .agg #[.int .i64 e0, .int .i64 e1, .int .i64 e2, .int .i64 e3, .int .i64 e4]] w fun e w' => e = .returned (.bool true) ∧ Below w.heap.size w w' := by
  unfold lnEdge edgeIs at he
  dsimp only at he
  simp only [Bool.and_eq_true, decide_eq_true_eq] at he
  obtain ⟨hx, hy, hne, hf, ht, hx1, hy1, hxy, he⟩ := he
  obtain ⟨i, hi, ex, qi⟩ := found_own H hx
  obtain ⟨j, hj, ey, qj⟩ := found_own H hy
  unfold isAt at qi qj
  simp only [decide_eq_true_eq] at qi qj
  subst qi
  subst qj
  have cf := com_own HN H rfl hf
  have ct := com_own HN H rfl ht
  rw [ex] at hx1 hxy he
  rw [ey] at hy1 hxy he
  dsimp only at hx1 hy1 hxy he
  have ea : rd_T53 h (i : Int) = ⟨(rd_T53 h (i : Int)).f0, e1, (rd_T53 h (i : Int)).f2, (rd_T53 h (i : Int)).f3⟩ := by rw [← hx1]
  have eb : rd_T53 h (j : Int) = ⟨(rd_T53 h (j : Int)).f0, e2, (rd_T53 h (i : Int)).f2, (rd_T53 h (j : Int)).f3⟩ := by rw [← hy1, hxy]
  by_cases g1 : e0 = 1
  · subst g1
    rw [if_pos rfl] at he
    simp only [Bool.and_eq_true, decide_eq_true_eq] at he
    exact holds_1 A0 c0 h e1 e2 i j w hr hl _ _ cf ct hf hne hi hj _ _ _ _ _ ea eb he.1 he.2.1 he.2.2
  · rw [if_neg g1] at he
    by_cases g2 : e0 = 2
    · subst g2
      rw [if_pos rfl] at he
      simp only [Bool.and_eq_true, decide_eq_true_eq] at he
      exact holds_2 A0 c0 h e1 e2 i j w hr hl _ _ cf ct hf hne hi hj _ _ _ _ _ ea eb he.1 he.2.1 ht he.2.2
    · rw [if_neg g2] at he
      simp only [Bool.and_eq_true, Bool.or_eq_true, decide_eq_true_eq] at he
      obtain ⟨g3, h2, h3, he⟩ := he
      subst g3
      by_cases hv : (rd_T53 h (i : Int)).f3.size = 0
      · exact holds_3 A0 c0 h e1 e2 i j w hr hl _ _ cf ct hf hne hi hj _ _ _ _ _ ea eb h2 h3 ht (ba_nil1 hv)
      · obtain ⟨hw, hge, hm, hmt⟩ := he.resolve_left hv
        obtain ⟨wi, hwi, ew, hff⟩ := wr_own HN H hw
        have cm := com_own HN H rfl hm
        rw [ew] at hge cm hm hmt
        exact holds_4 A0 c0 h e1 e2 i j w hr hl _ _ cf ct hf hne hi hj _ _ _ _ _ ea eb h2 h3 ht hv wi hwi hff _ _ _ _ rfl hge _ cm hm hmt
end
end Go.Proofs.YtjlpjpjodhkpdaaGreatDoor
