/- redact.Shape's name of a text (a map of texts): what it hands back, and what the map knows behind it. -/
import Derived.Maps.OwnSet
import Derived.Maps.StringElems
import Derived.Maps.AppendAt
import Derived.Test.YtbckobokiioeaaaDoorShapeM
import Derived.Test.YtbckobokiioeaaaDoorShelf
import Derived.Test.YtbckobokiioeaaaDoorWWords
import Derived.Lib.Hide
import Derived.WalkSpells
set_option linter.unusedVariables false
set_option linter.unusedSimpArgs false
namespace Go.Proofs.YtbckobokiioeaaaDoor
open Go.RowKit Go.Maps Go.ChangeMaps Go.Proofs.YtbckobokiioeaaaDoorW.PrintWords

theorem lawStr : Keyed Tryd.prog 9 := string_keyed Tryd.underlying9
def figB (i : Nat) : ByteArray := ⟨(Lib.decDigits i).toArray⟩
/-- The map knows the first places of the texts ahead (the empty one is none): each key among them, with the letter and the place's figures; no other one. -/
structure Knows (letter : ByteArray) (ks : List ByteArray) (D : DataW Unit) : Prop where
  isMap : IsMap D
  has : ∀ s : ByteArray, s ≠ ⟨#[]⟩ → (Maps.has D (.string s.data.toList) = true ↔ s ∈ ks)
  at_ : ∀ s : ByteArray, s ≠ ⟨#[]⟩ → s ∈ ks → ∀ z, D.atKey (.string s.data.toList) z = .lit (.string (letter ++ figB (SM.firstOf s ks)).data.toList)
theorem knows_nil (letter : ByteArray) : Knows letter [] (.map []) := by
  refine ⟨⟨[], rfl⟩, fun s _ => ?_, fun s _ h => by cases h⟩
  simp [Maps.has]
theorem bytes_eq {a b : ByteArray} (h : a.data.toList = b.data.toList) : a = b := ByteArray.ext (Array.toList_inj.1 h)
theorem Knows.old {letter : ByteArray} {ks : List ByteArray} {D : DataW Unit} (h : Knows letter ks D) {s : ByteArray} (hs : s = ⟨#[]⟩ ∨ s ∈ ks) : Knows letter (ks ++ [s]) D := by
  refine ⟨h.isMap, fun t ht => ?_, fun t ht hm z => ?_⟩
  · rw [h.has t ht]
    refine ⟨fun hm => List.mem_append_left _ hm, fun hm => ?_⟩
    rcases List.mem_append.1 hm with hm | hm
    · exact hm
    · obtain rfl := List.mem_singleton.1 hm
      exact hs.resolve_left ht
  · have hm' : t ∈ ks := by
      rcases List.mem_append.1 hm with hm | hm
      · exact hm
      · obtain rfl := List.mem_singleton.1 hm
        exact hs.resolve_left ht
    rw [h.at_ t ht hm' z, SM.firstOf_append _ hm']
theorem Knows.new {letter : ByteArray} {ks : List ByteArray} {D : DataW Unit} (h : Knows letter ks D) {s : ByteArray} (h0 : s ≠ ⟨#[]⟩) (hs : s ∉ ks) : Knows letter (ks ++ [s]) (D.put (.string s.data.toList) (.lit (.string (letter ++ figB ks.length).data.toList))) := by
  have hf : SM.firstOf s (ks ++ [s]) = ks.length := by
    clear h
    induction ks with
    | nil => simp [SM.firstOf]
    | cons k ks ih =>
      rw [List.cons_append, SM.firstOf, if_neg (fun e => hs (by simp [e])), ih (fun hm => hs (List.mem_cons_of_mem _ hm))]
      simp
  refine ⟨?_, fun t ht => ?_, fun t ht hm z => ?_⟩
  · obtain ⟨es, rfl⟩ := h.isMap
    exact ⟨_, rfl⟩
  · by_cases e : t = s
    · subst e
      rw [Maps.has_put_same h.isMap (by simp [WideAt.IsKeyLit])]
      simp
    · rw [Maps.has_put_other (fun x => e (bytes_eq (by injection x)))]
      rw [h.has t ht]
      refine ⟨fun hm => List.mem_append_left _ hm, fun hm => ?_⟩
      rcases List.mem_append.1 hm with hm | hm
      · exact hm
      · exact absurd (List.mem_singleton.1 hm) e
  · by_cases e : t = s
    · subst e
      rw [Maps.atKey_put_same h.isMap (by simp [WideAt.IsKeyLit]), hf]
    · have hm' : t ∈ ks := by
        rcases List.mem_append.1 hm with hm | hm
        · exact hm
        · exact absurd (List.mem_singleton.1 hm) e
      rw [Maps.atKey_put_other (fun x => e (bytes_eq (by injection x))), h.at_ t ht hm' z, SM.firstOf_append _ hm']
theorem key_of (s : ByteArray) (hs : s.size ≤ maxLen) : keyOf Tryd.prog 9 (.string s) = some (.string s.data.toList) := by
  simp [keyOf, Tryd.underlying9, mapKey, hs]
/-- The name of a text, by its letter. -/
def nmB (letter : ByteArray) (i : Nat) : ByteArray := letter ++ figB i
def nameR (letter : ByteArray) (ks : List ByteArray) (s : ByteArray) : ByteArray := if s = ⟨#[]⟩ then ⟨#[]⟩ else nmB letter (SM.firstOf s ks)
/-- How the naming ends. -/
structure Named (letter : ByteArray) (ks : List ByteArray) (s : ByteArray) (b n : Nat) (w : World) (e : Ending) (w' : World) : Prop where
  ret : e = .returned (.string (nameR letter (ks ++ [s]) s))
  knows : ∃ D, w'.ownsMap Tryd.prog 9 (plainElem Tryd.prog 9) b (n + 1) D ∧ Knows letter (ks ++ [s]) D
  grown : w.grownBy w' (some b)
theorem fig_size (i : Nat) (hi : i < 100) : (figB i).size ≤ 100 := by
  unfold figB
  show (Lib.decDigits i).toArray.size ≤ 100
  rw [List.size_toArray]
  by_cases h : i < 10
  · rw [Lib.decDigits_one h]
    simp
  · rw [Lib.decDigits_two h hi]
    simp
set_option maxHeartbeats 2000000 in
set_option maxRecDepth 100000 in
theorem name_any (letter : ByteArray) (ks : List ByteArray) (s : ByteArray) (b n : Nat) (D : DataW Unit) (w : World) (hown : w.ownsMap Tryd.prog 9 (plainElem Tryd.prog 9) b n D) (hK : Knows letter ks D) (hn : n < 100) (hk : ks.length < 100) (hs : s.size ≤ maxLen) (hl : letter.size = 1) :
    Calls Tryd.prog 25 #[.map (some b), .string letter, .string s, .int .i64 (ks.length : Int)] w (Named letter ks s b n w) := by
  by_cases h0 : s = ⟨#[]⟩
  · have HN : Hid (Named letter ks s b n w (.returned (.string ⟨#[]⟩)) w) := Lib.hid ⟨by unfold nameR; rw [if_pos h0], ⟨D, hown.mono (Nat.le_succ _), hK.old (.inl h0)⟩, rfl, rfl, rfl, Nat.le_refl _, fun _ _ _ => rfl⟩
    clear hown hK
    subst h0
    go_enter Tryd.func25, Tryd.ntmps25
    go_wp2
    go_ret
    exact HN.out
  · have hne : ¬ s.toList = [] := fun e => h0 (bytes_eq (by rw [← Lib.toList_data, e]))
    have c0 : (s.toList == []) = false := beq_eq_false_iff_ne.mpr hne
    have c1 : s.toList.isEmpty = false := by simpa using hne
    have hkey := key_of s hs
    have hzero : plainElem (H := Unit) Tryd.prog 9 (.string ⟨#[]⟩) = some (.lit (.string []), []) := plainElem_string Tryd.underlying9 (s := ⟨#[]⟩) (Nat.zero_le _)
    obtain ⟨v1, p1, hr1, hv1⟩ := hown.look_ok lawStr Tryd.underlying53 (Tryd.zeroValue9 w) hzero hkey
    obtain ⟨x1, rfl, hx1, _⟩ := plainElem_string_inv Tryd.underlying9 hv1
    by_cases hm : s ∈ ks
    · rw [(hK.has s h0).2 hm] at hr1
      obtain ⟨v2, p2, hr2, hv2⟩ := hown.lookup lawStr Tryd.underlying53 (Tryd.zeroValue9 w) hzero hkey
      obtain ⟨x2, rfl, hx2, _⟩ := plainElem_string_inv Tryd.underlying9 hv2
      rw [hK.at_ s h0 hm] at hx2
      have ex : x2 = nameR letter (ks ++ [s]) s := by
        have h1 := congrArg Prod.fst hx2
        have h2 : (letter ++ figB (SM.firstOf s ks)).data.toList = x2.data.toList := by
          injection h1 with h1
          injection h1
        unfold nameR nmB
        rw [if_neg h0, SM.firstOf_append _ hm]
        exact (bytes_eq h2).symm
      have HN : Hid (Named letter ks s b n w (.returned (.string x2)) w) := Lib.hid ⟨by rw [ex], ⟨D, hown.mono (Nat.le_succ _), hK.old (.inr hm)⟩, rfl, rfl, rfl, Nat.le_refl _, fun _ _ _ => rfl⟩
      clear hown hK hx1 hx2 ex hv1 hv2 hkey hne h0
      go_enter Tryd.func25, Tryd.ntmps25
      go_wp2
      go_ret
      exact HN.out
    · rw [Bool.eq_false_iff.2 (fun x => hm ((hK.has s h0).1 x))] at hr1
      obtain ⟨y, hy⟩ : ∃ y, y = figB ks.length := ⟨_, rfl⟩
      have hys : y.size ≤ 100 := by rw [hy]; exact fig_size _ hk
      have hly : letter.size + y.size ≤ 9223372036854775807 := by omega
      have hlx : (letter ++ y).size ≤ maxLen := by rw [ByteArray.size_append]; exact hly
      have hval : plainElem (H := Unit) Tryd.prog 9 (.string (letter ++ y)) = some (.lit (.string (letter ++ y).data.toList), []) := plainElem_string Tryd.underlying9 hlx
      obtain ⟨w1, hru, hown1, hg1⟩ := hown.update lawStr Tryd.underlying53 (by unfold maxLen; omega) hkey hval
      have hK1 := hK.new h0 hm
      rw [← hy] at hK1
      obtain ⟨v2, p2, hr2, hv2⟩ := hown1.lookup lawStr Tryd.underlying53 (Tryd.zeroValue9 w1) hzero hkey
      obtain ⟨x2, rfl, hx2, _⟩ := plainElem_string_inv Tryd.underlying9 hv2
      rw [hK1.at_ s h0 (by simp)] at hx2
      have ex : x2 = nameR letter (ks ++ [s]) s := by
        have h1 := congrArg Prod.fst hx2
        have h2 : (letter ++ figB (SM.firstOf s (ks ++ [s]))).data.toList = x2.data.toList := by
          injection h1 with h1
          injection h1
        unfold nameR nmB
        rw [if_neg h0]
        exact (bytes_eq h2).symm
      have HN : Hid (Named letter ks s b n w (.returned (.string x2)) w1) := Lib.hid ⟨by rw [ex], ⟨_, hown1, hK1⟩, hg1⟩
      have HI := Lib.hid (Tryd.strconv_Itoa_small ks.length hk w)
      have e1 : (⟨(Lib.decDigits ks.length).toArray⟩ : ByteArray) = y := hy.symm
      rw [e1] at HI
      have c2 := eq_true hly
      have c3 : (9223372036854775807 < letter.size + y.size) = False := eq_false (Nat.not_lt.2 hly)
      clear hown hK hx1 hx2 ex hv1 hv2 hkey hne h0 hown1 hK1 hg1 hy hval hlx e1 hm
      go_enter Tryd.func25, Tryd.ntmps25
      go_wp2_with (go_at_call 26; refine Pause'.out ?_)
      constructor
      refine HI.out.mono ?_
      rintro e u ⟨rfl, rfl⟩
      go_wp2
      go_ret
      exact HN.out
end Go.Proofs.YtbckobokiioeaaaDoor
