/- redact.Twins, in the form that the print takes. -/
import Derived.Test.YtbckobokiioeaaaDoorTwins
set_option linter.unusedVariables false
set_option linter.unusedSimpArgs false
namespace Go.Proofs.YtbckobokiioeaaaDoor
open Go.RowKit Go.Proofs.YtbckobokiioeaaaDoor.Q Go.Proofs.YtbckobokiioeaaaDoorW.PrintWords
attribute [local go_sem] Oper.semAt_some

theorem inputsK_short (h : List Evt) (hl : h.length ≤ 60) : (inputsK h).length ≤ 60 := by
  unfold inputsK
  have h1 := List.length_filter_le (fun s : ByteArray => decide (1 < s.size)) ((h.filter fun x => decide (keyedE x.f0)).map fun x => (⟨#[5]⟩ : ByteArray) ++ x.f2)
  have h2 := List.length_filter_le (fun x : Evt => decide (keyedE x.f0)) h
  rw [List.length_map] at h1
  omega
theorem inputsV_short (h : List Evt) (hl : h.length ≤ 60) : (inputsV h).length ≤ 60 := by
  unfold inputsV
  have h1 := List.length_filter_le (fun s : ByteArray => decide (1 < s.size)) ((h.filter fun x => decide (keyedE x.f0)).map fun x => (⟨#[6]⟩ : ByteArray) ++ x.f3)
  have h2 := List.length_filter_le (fun x : Evt => decide (keyedE x.f0)) h
  rw [List.length_map] at h1
  omega
theorem seed_ok (seed : ByteArray) (h : List Evt) (he : ∀ x ∈ h, errE seed x = 0) : h = [] ∨ ¬ badK seed := by
  cases h with
  | nil => exact .inl rfl
  | cons x r =>
    refine .inr fun hb => ?_
    have := he x (by simp)
    unfold errE at this
    rw [oneR_no (fun hp => hp.1 hb)] at this
    cases this
abbrev twoBoxes (u : World) (A0 : Option Addr) (n c0 g : Nat) : World := (u.alloc (.cells #[.slice A0 n c0] 22)).alloc (.cells #[.func (.func g) #[] #[]] 64)
theorem two_boxes (u : World) (A0 : Option Addr) (n c0 g : Nat) : (twoBoxes u A0 n c0 g).cell? ⟨u.heap.size, 0, none⟩ = some (.slice A0 n c0) ∧ (twoBoxes u A0 n c0 g).cell? ⟨u.heap.size + 1, 0, none⟩ = some (.func (.func g) #[] #[]) ∧ Below u.heap.size u (twoBoxes u A0 n c0 g) ∧ (twoBoxes u A0 n c0 g).heap.size = u.heap.size + 2 := by
  have b1 := (Boxed.new u 22 (.slice A0 n c0)).alloc (.cells #[.func (.func g) #[] #[]] 64)
  have b2 := Boxed.new (u.alloc (.cells #[.slice A0 n c0] 22)) 64 (.func (.func g) #[] #[])
  rw [World.size_alloc] at b2
  exact ⟨b1.cell, b2.cell, ((Below.refl _ u).alloc (Nat.le_refl _) _).alloc (by simp) _, by simp⟩
section
variable (seed : ByteArray) (h : List Evt) (hl : h.length ≤ 60) (hs : SmallE h) (he : ∀ x ∈ h, errE seed x = 0) (A0 : Option Addr) (c0 : Nat) (u : World) (hT : Tabs u) (hr : Kd.C k26 u A0 h.length h)
include hl hs he hT hr
theorem itwK_any : Calls Tryd.prog 35 #[.string seed, .func (.func 48) #[] #[.pointer (some ⟨u.heap.size, 0, none⟩), .pointer (some ⟨u.heap.size + 1, 0, none⟩)]] (twoBoxes u A0 h.length c0 37) fun e w' =>
    e = .returned (.tuple #[.string (twinU seed [] (inputsK h)).1, .string (twinU seed [] (inputsK h)).2.1, .bool (twinU seed [] (inputsK h)).2.2]) ∧ Below u.heap.size u w' := by
  obtain ⟨h1, h2, h3, h4⟩ := two_boxes u A0 h.length c0 37
  refine (rtwins_any seed (inputsK h) (inputsK_short h hl) ((seed_ok seed h he).imp (fun e => by rw [e]; rfl) id) u.heap.size (u.heap.size + 1) u.heap.size (twoBoxes u A0 h.length c0 37) (hT.below h3 hT.size) (by omega) (by omega)
    (inputsK_stops Fence.wide 7 trivial trivial trivial trivial rfl (by omega) h hl hs A0 c0 u.heap.size (u.heap.size + 1) u.heap.size _ (by omega) (by omega) (by omega) h1 h2 (fun W' hb => Kd.C_below hr (h3.trans hb)))).mono ?_
  rintro e w' ⟨rfl, hb⟩
  exact ⟨rfl, h3.trans (hb.mono (by omega))⟩
theorem itwV_any : Calls Tryd.prog 35 #[.string seed, .func (.func 48) #[] #[.pointer (some ⟨u.heap.size, 0, none⟩), .pointer (some ⟨u.heap.size + 1, 0, none⟩)]] (twoBoxes u A0 h.length c0 38) fun e w' =>
    e = .returned (.tuple #[.string (twinU seed [] (inputsV h)).1, .string (twinU seed [] (inputsV h)).2.1, .bool (twinU seed [] (inputsV h)).2.2]) ∧ Below u.heap.size u w' := by
  obtain ⟨h1, h2, h3, h4⟩ := two_boxes u A0 h.length c0 38
  refine (rtwins_any seed (inputsV h) (inputsV_short h hl) ((seed_ok seed h he).imp (fun e => by rw [e]; rfl) id) u.heap.size (u.heap.size + 1) u.heap.size (twoBoxes u A0 h.length c0 38) (hT.below h3 hT.size) (by omega) (by omega)
    (inputsV_stops Fence.wide 7 trivial trivial trivial trivial rfl (by omega) h hl hs A0 c0 u.heap.size (u.heap.size + 1) u.heap.size _ (by omega) (by omega) (by omega) h1 h2 (fun W' hb => Kd.C_below hr (h3.trans hb)))).mono ?_
  rintro e w' ⟨rfl, hb⟩
  exact ⟨rfl, h3.trans (hb.mono (by omega))⟩
end
theorem one_any (seed : ByteArray) (x : Evt) (er : Int) (her : er = errE seed x) (hs : x.f2.size ≤ 140737488351232 ∧ x.f3.size ≤ 140737488351232) (w : World) (hT : Tabs w) :
    Calls Tryd.prog 17 #[.string seed, .agg #[.int .i64 x.f0, .int .i64 x.f1, .string x.f2, .string x.f3]] w fun e w' => (∃ y : Evt, e = .returned (.tuple #[.agg #[.int .i64 y.f0, .int .i64 y.f1, .string y.f2, .string y.f3], .int .i64 er])) ∧ Below w.heap.size w w' := by
  subst her
  obtain ⟨K, hK⟩ := one_f seed x.f0 x.f1 x.f2 x.f3 hs.1 hs.2
  exact (redact_One.calls K seed x.f0 x.f1 x.f2 x.f3 _ _ _ _ _ w hT (hK K (Nat.le_refl _))).mono fun e w' ⟨he, hb⟩ => ⟨⟨oneE seed x, he⟩, hb⟩

set_option maxHeartbeats 4000000 in
set_option maxRecDepth 100000 in
theorem twins2_any (seed : ByteArray) (h : List Evt) (hl : h.length ≤ 60) (hs : SmallE h) (A0 : Option Addr) (c0 : Nat) (w : World) (hT : Tabs w) (hr : Kd.C k26 w A0 h.length h) :
    Calls Tryd.prog 23 #[.string seed, .slice A0 h.length c0] w fun e w' => e = .returned (.tuple #[.string (twinsR seed h).1, .string (twinsR seed h).2.1, .bool (twinsR seed h).2.2]) ∧ Below w.heap.size w w' := by
  have HT := Lib.hid hT; have HR := Lib.hid hr; have HS := Lib.hid hs
  obtain ⟨tr, htr⟩ : ∃ tr, tr = twinsR seed h := ⟨_, rfl⟩
  rw [← htr]
  obtain ⟨r1, r2, r3⟩ := tr
  have HTR := Lib.hid htr
  clear hT hr hs htr
  go_enter Tryd.func23, Tryd.ntmps23
  go_wp2
  go_loopw [16] (fun y wr => ∃ k : Nat, k ≤ h.length ∧ y = .int .i64 (k : Int) ∧ Hid (∀ j x, j < k → h[j]? = some x → errE seed x = 0) ∧ Below w.heap.size w wr) (fun y _ => h.length + 1 - (intOf y).toNat)
  case atStart => exact ⟨0, Nat.zero_le _, rfl, Lib.hid fun j x h => absurd h (Nat.not_lt_zero _), Below.refl _ _⟩
  case round =>
    obtain ⟨k, hk, rfl, HN, hB⟩ := hrel
    by_cases hlt : k < h.length
    · have hlt1 : decide ((k : Int) < (h.length : Int)) = true := by simp; omega
      have hlt2 : decide (k < h.length) = true := by simp; omega
      obtain ⟨ad, hA, hx0, hx1, hx2, hx3⟩ := at_T26 (Kd.C_below HR.out hB) (k : Int) (by omega) (by omega)
      rw [Int.toNat_natCast] at hx0 hx1 hx2 hx3
      have hX := rd_get hlt
      obtain ⟨x, hxe⟩ : ∃ x, x = rd_T26 h (k : Int) := ⟨_, rfl⟩
      rw [← hxe] at hx0 hx1 hx2 hx3 hX
      have HXX := Lib.hid hX
      subst hA
      obtain ⟨hc0, hc1, hc2, hc3⟩ := box4 wr x 26
      obtain ⟨er, her⟩ : ∃ er, er = errE seed x := ⟨_, rfl⟩
      have HER := Lib.hid her
      have hba := hB.alloc hB.size (.cells #[.int .i64 x.f0, .int .i64 x.f1, .string x.f2, .string x.f3] 26)
      have HO := Lib.hid (one_any seed x er her (HS.out x (List.mem_of_getElem? hX)) (wr.alloc (.cells #[.int .i64 x.f0, .int .i64 x.f1, .string x.f2, .string x.f3] 26)) (HT.out.below hba HT.out.size))
      have HBA := Lib.hid hba; have HB := Lib.hid hB
      clear hX hxe her hba hB
      by_cases hz : er = 0
      · have hd : (er != 0) = false := by simpa using hz
        have hd2 : (er == 0) = true := by simpa using hz
        have HZ := Lib.hid hz
        clear hz
        go_wp2_with (go_at_call 17; refine HO.out.mono ?_; rintro e w2 ⟨⟨y, rfl⟩, hb2⟩; have HB2 := Lib.hid hb2; clear hb2)
        go_roundw
        case rel => exact ⟨k + 1, by omega, by go_num, Lib.hid fun j z hj hz => by
          rcases Nat.lt_succ_iff_lt_or_eq.1 hj with hh | rfl
          · exact HN.out j z hh hz
          · rw [HXX.out] at hz
            cases hz
            exact HER.out.symm.trans HZ.out, (HBA.out.trans (HB2.out.mono HBA.out.size)).alloc (Nat.le_trans HBA.out.size HB2.out.size) _⟩
        case measure => simp [intOf]; omega
      · have hd : (er != 0) = true := by simpa using hz
        have hd2 : (er == 0) = false := by simpa using hz
        have HZ := Lib.hid hz
        clear hz
        go_wp2_with (go_at_call 17; refine HO.out.mono ?_; rintro e w2 ⟨⟨y, rfl⟩, hb2⟩; have HB2 := Lib.hid hb2; clear hb2)
        go_ret3
        have hno : ¬ ∀ x ∈ h, errE seed x = 0 := fun hh => HZ.out (HER.out.trans (hh x (List.mem_of_getElem? HXX.out)))
        refine ⟨?_, (HBA.out.trans (HB2.out.mono HBA.out.size)).alloc (Nat.le_trans HBA.out.size HB2.out.size) _⟩
        have htr := HTR.out
        rw [show twinsR seed h = (⟨#[]⟩, ⟨#[]⟩, false) by unfold twinsR; rw [if_neg hno]] at htr
        cases htr
        rfl
    · obtain rfl : k = h.length := by omega
      have hlt1 : decide ((h.length : Int) < (h.length : Int)) = false := by simp
      have hlt2 : decide (h.length < h.length) = false := by simp
      have hall : ∀ x ∈ h, errE seed x = 0 := fun x hx => by
        obtain ⟨j, hj, e⟩ := List.getElem_of_mem hx
        exact HN.out j x hj (by rw [List.getElem?_eq_getElem hj, e])
      have e := HTR.out.trans (twinsR_eq seed h hall)
      have HK := Lib.hid (fun u (hb : Below w.heap.size w u) => itwK_any seed h hl HS.out hall A0 c0 u (HT.out.below hb HT.out.size) (Kd.C_below HR.out hb))
      have HV := Lib.hid (fun u (hb : Below w.heap.size w u) => itwV_any seed h hl HS.out hall A0 c0 u (HT.out.below hb HT.out.size) (Kd.C_below HR.out hb))
      obtain ⟨tk, htk⟩ : ∃ tk, tk = twinU seed [] (inputsK h) := ⟨_, rfl⟩
      obtain ⟨tv, htv⟩ : ∃ tv, tv = twinU seed [] (inputsV h) := ⟨_, rfl⟩
      rw [← htk] at HK
      rw [← htv] at HV
      rw [← htk, ← htv] at e
      have HB := Lib.hid hB; have HE := Lib.hid e
      clear htk htv e hall hB HN HTR
      obtain ⟨a, b, is⟩ := tk
      cases is with
      | true =>
        go_wp2_with (first
          | (go_at_call 36; (with_reducible refine (inputs_any _ _ _ ⟨_, _, _, rfl⟩ ⟨_, rfl⟩).mono ?_); rintro e w2 ⟨rfl, rfl⟩)
          | (go_at_call 35; refine (HK.out _ HB.out).mono ?_; rintro e w3 ⟨rfl, hb3⟩; have HB3 := Lib.hid hb3; clear hb3))
        go_ret3
        exact ⟨by have e := HE.out; simp only [bothR] at e; cases e; rfl, HB.out.trans (HB3.out.mono HB.out.size)⟩
      | false =>
        go_wp2_with (first
          | (go_at_call 36; (with_reducible refine (inputs_any _ _ _ ⟨_, _, _, rfl⟩ ⟨_, rfl⟩).mono ?_); rintro e w2 ⟨rfl, rfl⟩)
          | (go_at_call 35; (with_reducible refine (HK.out wr HB.out).mono ?_); rintro e w3 ⟨rfl, hb3⟩; have HB3 := Lib.hid hb3; clear hb3)
          | (go_at_call 35; (with_reducible refine (HV.out w3 (HB.out.trans (HB3.out.mono HB.out.size))).mono ?_); rintro e w4 ⟨rfl, hb4⟩; have HB4 := Lib.hid hb4; clear hb4))
        go_ret3
        exact ⟨by have e := HE.out; simp only [bothR] at e; cases e; rfl, (HB.out.trans (HB3.out.mono HB.out.size)).trans (HB4.out.mono (Nat.le_trans HB.out.size HB3.out.size))⟩
theorem redact_Twins.calls (a0 : ByteArray) (A1 : Option Addr) (c1 : Nat) (l1 : List Evt) (r1 r2 : ByteArray) (r3 : Bool) (w : World) (hT : Tabs w) (hr1 : Kd.C k26 w A1 l1.length l1) (hc1 : l1.length ≤ c1) (h : redact_Twins.f a0 l1 = some (r1, r2, r3)) :
    Calls Tryd.prog 23 #[.string a0, .slice A1 l1.length c1] w fun e w' => e = .returned (.tuple #[.string r1, .string r2, .bool r3]) ∧ Below w.heap.size w w' := by
  unfold redact_Twins.f at h
  by_cases hc : l1.length ≤ 60 ∧ ∀ x ∈ l1, x.f2.size ≤ 140737488351232 ∧ x.f3.size ≤ 140737488351232
  · rw [if_pos hc] at h
    have := twins2_any a0 l1 hc.1 hc.2 A1 c1 w hT hr1
    rw [Option.some.inj h] at this
    exact this
  · rw [if_neg hc] at h
    cases h
end Go.Proofs.YtbckobokiioeaaaDoor
