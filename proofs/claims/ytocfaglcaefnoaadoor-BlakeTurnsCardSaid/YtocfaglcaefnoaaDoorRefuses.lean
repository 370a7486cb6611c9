/- The law BlakeRefuses: the walk. -/
import Derived.Test.YtocfaglcaefnoaaDoorShown
set_option linter.unusedVariables false
set_option linter.unusedSimpArgs false
namespace Go.Proofs.YtocfaglcaefnoaaDoor
open Go.RowKit

/-- A walk stops here. -/
structure Pause (p : Prop) : Prop where
  out : p

theorem lit8 (h : List Int) (hh : h.length = 8) : ∃ a b c d e f g i : Int, (u32s h).toArray = #[.int .u32 a, .int .u32 b, .int .u32 c, .int .u32 d, .int .u32 e, .int .u32 f, .int .u32 g, .int .u32 i] := by
  obtain ⟨a, b, c, d, e, f, g, i, rfl⟩ := list8 h hh
  exact ⟨a, b, c, d, e, f, g, i, rfl⟩
/-- What Block answers, at whatever text. -/
theorem block_8 (h : List Int) (hh : h.length = 8) (s : ByteArray) (t : Int) (last : Bool) : ∃ a b c d e f g i k : Int, ((s.size = 64 ∧ k = 0) ∨ (¬ s.size = 64 ∧ k = 1)) ∧ ∀ w, Tabs w →
    Calls Tryd.prog 14 #[.agg (u32s h).toArray, .string s, .int .u64 t, .bool last] w fun e' w' =>
      e' = .returned (.tuple #[.agg #[.int .u32 a, .int .u32 b, .int .u32 c, .int .u32 d, .int .u32 e, .int .u32 f, .int .u32 g, .int .u32 i], .int .i64 k]) ∧ Below w.heap.size w w' := by
  by_cases hs : s.size = 64
  · obtain ⟨a, b, c, d, e, f, g, i, h8⟩ := lit8 (blockL h s t last) (blockL_length _ _ _ _)
    refine ⟨a, b, c, d, e, f, g, i, 0, .inl ⟨hs, rfl⟩, fun w hT => ?_⟩
    rw [← h8]
    exact block_ok h hh s hs t last w hT
  · exact ⟨0, 0, 0, 0, 0, 0, 0, 0, 1, .inr ⟨hs, rfl⟩, fun w hT => block_no h s hs t last w⟩
theorem start_8 (key : Int) : ∃ a b c d e f g i k : Int, (((0 ≤ key ∧ key ≤ 32) ∧ k = 0) ∨ ((key < 0 ∨ 32 < key) ∧ k = 1)) ∧ ∀ w, Tabs w →
    Calls Tryd.prog 12 #[.int .i64 key] w fun e' w' =>
      e' = .returned (.tuple #[.agg #[.int .u32 a, .int .u32 b, .int .u32 c, .int .u32 d, .int .u32 e, .int .u32 f, .int .u32 g, .int .u32 i], .int .i64 k]) ∧ Below w.heap.size w w' := by
  by_cases hk : 0 ≤ key ∧ key ≤ 32
  · obtain ⟨a, b, c, d, e, f, g, i, h8⟩ := lit8 (startL key) (startL_length _)
    refine ⟨a, b, c, d, e, f, g, i, 0, .inl ⟨hk, rfl⟩, fun w hT => ?_⟩
    rw [← h8]
    exact start_ok key hk.1 hk.2 w hT
  · exact ⟨0, 0, 0, 0, 0, 0, 0, 0, 1, .inr ⟨by omega, rfl⟩, fun w hT => start_no key (by omega) w⟩

set_option maxHeartbeats 1000000 in
theorem refuses_walk (h : List Int) (hh : h.length = 8) (s : ByteArray) (t key : Int) (w : World) (hT : Tabs w) :
    Calls Tryd.prog 8 #[.agg (u32s h ++ [Value.string s, .int .u64 t, .int .i64 key]).toArray] w fun e w' => e = .returned (.bool true) ∧ Below w.heap.size w w' := by
  obtain ⟨a0, a1, a2, a3, a4, a5, a6, a7, ka, hka, HA⟩ := block_8 h hh s t true
  obtain ⟨b0, b1, b2, b3, b4, b5, b6, b7, kb, hkb, HB⟩ := start_8 key
  obtain ⟨h0, h1, h2, h3, h4, h5, h6, h7, h8⟩ := lit8 h hh
  have ha : (u32s h ++ [Value.string s, .int .u64 t, .int .i64 key]).toArray = #[.int .u32 h0, .int .u32 h1, .int .u32 h2, .int .u32 h3, .int .u32 h4, .int .u32 h5, .int .u32 h6, .int .u32 h7, .string s, .int .u64 t, .int .i64 key] := by
    rw [← List.append_toArray, h8]
    rfl
  rw [ha]
  rw [h8] at HA
  clear h8 hh ha
  have HS := Lib.hid (fun u (hu : Tabs u) => shown_any u hu)
  replace HA := Lib.hid HA
  replace HB := Lib.hid HB
  go_enter Tryd.func8, Tryd.ntmps8
  go_wp2_with (go_at_call 11; refine Pause.out ?_)
  have hR : RowIs ((w.alloc (.cells #[.int .u32 h0, .int .u32 h1, .int .u32 h2, .int .u32 h3, .int .u32 h4, .int .u32 h5, .int .u32 h6, .int .u32 h7, .string s, .int .u64 t, .int .i64 key] 41)).alloc (.cells #[.int .u32 h0, .int .u32 h1, .int .u32 h2, .int .u32 h3, .int .u32 h4, .int .u32 h5, .int .u32 h6, .int .u32 h7] 24)) (w.heap.size + 1) 24 (u32s [h0, h1, h2, h3, h4, h5, h6, h7]) := by
    have := RowIs.new (w.alloc (.cells #[.int .u32 h0, .int .u32 h1, .int .u32 h2, .int .u32 h3, .int .u32 h4, .int .u32 h5, .int .u32 h6, .int .u32 h7, .string s, .int .u64 t, .int .i64 key] 41)) 24 (u32s [h0, h1, h2, h3, h4, h5, h6, h7])
    rw [World.size_alloc] at this
    exact this
  have hB := ((Below.refl w.heap.size w).alloc (Nat.le_refl _) (.cells #[.int .u32 h0, .int .u32 h1, .int .u32 h2, .int .u32 h3, .int .u32 h4, .int .u32 h5, .int .u32 h6, .int .u32 h7, .string s, .int .u64 t, .int .i64 key] 41)).alloc (by simp) (.cells #[.int .u32 h0, .int .u32 h1, .int .u32 h2, .int .u32 h3, .int .u32 h4, .int .u32 h5, .int .u32 h6, .int .u32 h7] 24)
  generalize World.alloc _ _ = W at *
  constructor
  refine (HS.out _ (hT.below hB hT.size)).mono ?_
  rintro e u ⟨rfl, hb⟩
  replace hR := hR.below hb
  replace hB := hB.trans (hb.mono hB.size)
  clear hb
  go_wp2_with (first | (refine wpList_load_row rfl 24 (.tmp 3) rfl (w.heap.size + 1) rfl 24 (u32s [h0, h1, h2, h3, h4, h5, h6, h7]).toArray (0, 0) _ hR Tryd.underlying24 rfl (by rw [size8]; rfl) ?_) | (go_at_call 14; refine Pause.out ?_))
  constructor
  refine (HA.out _ (hT.below hB hT.size)).mono ?_
  rintro e u2 ⟨rfl, hb⟩
  replace hB := (hB.trans (hb.mono hB.size)).alloc (by have := hB.size; have := hb.size; omega) (.cells #[.int .u32 a0, .int .u32 a1, .int .u32 a2, .int .u32 a3, .int .u32 a4, .int .u32 a5, .int .u32 a6, .int .u32 a7] 24)
  clear hb hR
  go_wp2_with (go_at_call 12; refine Pause.out ?_)
  generalize World.alloc _ _ = W2 at *
  constructor
  refine (HB.out _ (hT.below hB hT.size)).mono ?_
  rintro e u3 ⟨rfl, hb⟩
  replace hB := (hB.trans (hb.mono hB.size)).alloc (by have := hB.size; have := hb.size; omega) (.cells #[.int .u32 b0, .int .u32 b1, .int .u32 b2, .int .u32 b3, .int .u32 b4, .int .u32 b5, .int .u32 b6, .int .u32 b7] 24)
  clear hb
  rcases hka with ⟨q1, rfl⟩ | ⟨q1, rfl⟩ <;> rcases hkb with ⟨q2, rfl⟩ | ⟨q2, rfl⟩
  all_goals
    go_wp2
  all_goals go_ret
  all_goals exact ⟨by first | rfl | (simp; omega), hB⟩
end Go.Proofs.YtocfaglcaefnoaaDoor
