/- redact.twins: the first two inputs of one tag. -/
import Derived.Test.YtbckobokiioeaaaDoorHeldI
import Derived.Test.YtbckobokiioeaaaDoorTwSt
set_option linter.unusedVariables false
set_option linter.unusedSimpArgs false
namespace Go.Proofs.YtbckobokiioeaaaDoor
open Go.RowKit Go.Proofs.YtbckobokiioeaaaDoor.Q Go.Proofs.YtbckobokiioeaaaDoorW.PrintWords
attribute [local go_sem] Oper.semAt_some

abbrev twFrame (b gf : Nat) (lb : Array Value) (seed x : ByteArray) : Act :=
  { tmps := #[.string seed, .func (.func gf) #[] lb, .pointer (some ⟨b, 0, none⟩), undef, .pointer (some ⟨b + 1, 0, none⟩), .pointer (some ⟨b + 1 + 1, 0, none⟩), .pointer (some ⟨b + 1 + 1 + 1, 0, none⟩), .pointer (some ⟨b + 1 + 1 + 1 + 1, 0, none⟩), .pointer (some ⟨b + 1 + 1 + 1 + 1 + 1, 0, none⟩),
      .string x, undef, undef, undef, .func (.func gf) #[] lb, .string x, undef, undef, undef, undef, undef, undef, undef, undef, undef, undef, undef, undef, undef, undef, undef, undef, undef, undef, undef, undef, undef, undef, undef, undef, undef, undef, undef, undef, undef, undef, undef, undef, undef, undef, undef, undef, undef, undef, undef], defers := [] }
theorem strs_snoc (a : List ByteArray) (b : ByteArray) : (a ++ [b]).map Value.string = a.map Value.string ++ [.string b] := by simp
theorem infoStr : (Tryd.prog.info? 9).map (fun i => (i.zero, i.size, i.bytes)) = some (some (.string ⟨#[]⟩), 1, 16) := by kernel_rfl
theorem TwS.self {b : Nat} {seed : ByteArray} {W0 W : World} {u7 u8 v7 v8 : Value} {P Q : List ByteArray} (h : TwS b seed W0 u7 u8 v7 v8 P Q W) : TwS b seed W u7 u8 v7 v8 P Q W := { h with below := Below.refl _ _, keeps := KeepsFrom.refl _ _ }
/-- The next round's head. -/
theorem tw_next {b : Nat} {seed : ByteArray} {w W : World} {v7 v8 : Value} {P Q : List ByteArray} {pre : List SmS} {x : SmS} {kx : ByteArray} (h : TwS b seed W v7 v8 v7 v8 (P ++ [x.1]) (Q ++ [kx]) W) (hb : Below b w W) (hc : Clean seed P) (hP : P = pre.map (·.1))
    (hn : ∀ j z, j < P.length → P[j]? = some z → ¬ hitP seed z x.1) (hq : Q = P.map (keyedB seed)) (hk : kx = keyedB seed x.1) : TwJ b seed w (pre ++ [x]) W := by
  subst hk
  subst hq
  have e : (pre ++ [x]).map (·.1) = P ++ [x.1] := by rw [List.map_append, ← hP]; rfl
  refine ⟨v7, v8, ?_, hb, ?_⟩
  · rw [e, List.map_append]; exact h
  · rw [e]; exact hc.snoc (find_no seed x.1 P hn)
theorem ba_ne {a b : ByteArray} (h : a ≠ b) : (a.toList == b.toList) = false := by
  rw [beq_eq_false_iff_ne]
  intro e
  rw [Lib.toList_data, Lib.toList_data] at e
  exact h (ByteArray.ext (Array.toList_inj.1 e))
theorem addr_blk (a : Addr) (j : Nat) : (a.add j).block = a.block := by unfold Addr.add; split <;> rfl
theorem row_len {W : World} {base n m : Nat} {v : Value} {xs : List Value} (h : n = m) (ho : W.ownsRow base 9 1 v n xs) : W.ownsRow base 9 1 v m xs := h ▸ ho
theorem new_ne {W : World} {base n : Nat} {v : Value} {xs : List Value} (h : W.ownsRow base 9 1 v n xs) (i : Nat) (hi : W.heap.size ≤ i) : some i ≠ v.ownBlock := fun e => by
  have := (row_lt h e.symm).2.1
  omega

set_option maxHeartbeats 8000000 in
set_option maxRecDepth 100000 in
theorem rtwins_any (seed : ByteArray) (L : List ByteArray) (hL : L.length ≤ 60) (hb : L = [] ∨ ¬ badK seed) (Bh Bf n₀ : Nat) (w : World) (hT : Tabs w) (hn₀ : n₀ ≤ w.heap.size) (hBf : Bf < w.heap.size)
    (hseq : SeqStopsK Fence.wide 7 Tryd.prog 48 #[.pointer (some ⟨Bh, 0, none⟩), .pointer (some ⟨Bf, 0, none⟩)] (fun s : SmS => #[.string s.1]) (KpW n₀ Bf) (fun ys => ys.map (·.1) = L) (fun pre => pre.map (·.1) <+: L) L.length w) :
    Calls Tryd.prog 35 #[.string seed, .func (.func 48) #[] #[.pointer (some ⟨Bh, 0, none⟩), .pointer (some ⟨Bf, 0, none⟩)]] w fun e w' =>
      e = .returned (.tuple #[.string (twinU seed [] L).1, .string (twinU seed [] L).2.1, .bool (twinU seed [] L).2.2]) ∧ Below w.heap.size w w' := by
  refine (callsIn_wide (n := 8)).1 ?_
  refine callsIn_of_wp_marks Tryd.func35 rfl trivial ?_ rfl
  simp only [Tryd.ntmps35, List.size_toArray, List.length_cons, List.length_nil, Nat.reduceAdd, Nat.reduceSub, Array.replicate_succ, Array.replicate_zero, List.push_toArray, List.append_toArray, List.nil_append, List.cons_append]
  have HT := Lib.hid hT; have HSQ := Lib.hid hseq; have HB0 := Lib.hid hb
  clear hT hseq hb
  obtain ⟨i0, hi0, hz0, hsz0, hby0⟩ := info_parts infoStr
  gi_wp2
  have hs0 : TwS w.heap.size seed (((((((w.alloc (.cells #[.string seed] 9)).alloc (.cells #[.string ⟨#[]⟩] 9)).alloc (.cells #[.string ⟨#[]⟩] 9)).alloc (.cells #[.bool false] 4)).alloc (.cells #[.slice none 0 0] 65)).alloc (.cells #[.slice none 0 0] 65))) (.slice none 0 0) (.slice none 0 0) (.slice none 0 0) (.slice none 0 0) [] [] (((((((w.alloc (.cells #[.string seed] 9)).alloc (.cells #[.string ⟨#[]⟩] 9)).alloc (.cells #[.string ⟨#[]⟩] 9)).alloc (.cells #[.bool false] 4)).alloc (.cells #[.slice none 0 0] 65)).alloc (.cells #[.slice none 0 0] 65))) := by
    have e : ∀ (W : World) (n : Nat) (t : TypeId) (v : Value), W.heap.size = n → Boxed (W.alloc (.cells #[v] t)) n t v := fun W n t v h => h ▸ Boxed.new W t v
    exact ⟨(((((e _ _ _ _ rfl).alloc _).alloc _).alloc _).alloc _).alloc _, ⟨_, ((((e _ _ _ _ (by simp)).alloc _).alloc _).alloc _).alloc _⟩, ⟨_, (((e _ _ _ _ (by simp)).alloc _).alloc _).alloc _⟩, ⟨_, ((e _ _ _ _ (by simp)).alloc _).alloc _⟩, (e _ _ _ _ (by simp)).alloc _, e _ _ _ _ (by simp), World.ownsRow_nil _ _ _ _, World.ownsRow_nil _ _ _ _, fun k h => by simp [Value.ownBlock] at h, Below.refl _ _, KeepsFrom.refl _ _⟩
  have hB0 : Below w.heap.size w (((((((w.alloc (.cells #[.string seed] 9)).alloc (.cells #[.string ⟨#[]⟩] 9)).alloc (.cells #[.string ⟨#[]⟩] 9)).alloc (.cells #[.bool false] 4)).alloc (.cells #[.slice none 0 0] 65)).alloc (.cells #[.slice none 0 0] 65))) :=
    ((((((Below.refl _ w).alloc (Nat.le_refl _) _).alloc (by simp) _).alloc (by simp; omega) _).alloc (by simp; omega) _).alloc (by simp; omega) _).alloc (by simp; omega) _
  have hsz : (((((((w.alloc (.cells #[.string seed] 9)).alloc (.cells #[.string ⟨#[]⟩] 9)).alloc (.cells #[.string ⟨#[]⟩] 9)).alloc (.cells #[.bool false] 4)).alloc (.cells #[.slice none 0 0] 65)).alloc (.cells #[.slice none 0 0] 65))).heap.size = w.heap.size + 6 := by simp
  generalize (((((((w.alloc (.cells #[.string seed] 9)).alloc (.cells #[.string ⟨#[]⟩] 9)).alloc (.cells #[.string ⟨#[]⟩] 9)).alloc (.cells #[.bool false] 4)).alloc (.cells #[.slice none 0 0] 65)).alloc (.cells #[.slice none 0 0] 65))) = W0 at hs0 hB0 hsz ⊢
  refine wpIn_rangeFunc_ownG_of_H rfl (by omega) (gf := 48) (lb := #[.pointer (some ⟨Bh, 0, none⟩), .pointer (some ⟨Bf, 0, none⟩)]) rfl trivial (enters_of Tryd.func48 (by kernel_rfl) rfl) HSQ.out kpW_t
    (fun W l o o' hl ho hc _ => ⟨⟨rfl, rfl, rfl, by simp, fun k hk => World.putObj_heap_other (by omega)⟩, World.putObj_heap_other (by omega)⟩) hB0 (fun _ => rfl) (TwJ w.heap.size seed w) (TwX w.heap.size seed w) (by rw [hsz]; exact twJ_own _ _ _) (fun c => by rw [hsz]; exact twX_own _ _ _ c)
    ⟨_, _, hs0, hB0, clean_nil seed⟩ (fun x => twFrame w.heap.size 48 #[.pointer (some ⟨Bh, 0, none⟩), .pointer (some ⟨Bf, 0, none⟩)] seed x.1) ?assign ?body ?done ?stop (fun W => ⟨Below.refl _ _, rfl⟩)
  case assign =>
    intro l' x W K hK
    have HK := Lib.hid hK
    clear hK hs0 hB0
    gi_wp2
    exact HK.out
  case body =>
    rintro l' pre x W ⟨v7, v8, hs, hbw, hcl⟩ hlt
    rw [hsz]
    have hgood : ¬ badK seed := by
      rcases HB0.out with rfl | h
      · exact absurd hlt (by simp)
      · exact h
    clear hs0 hB0 hsz HSQ HB0
    obtain ⟨P, hP⟩ : ∃ P, P = pre.map (·.1) := ⟨_, rfl⟩
    have hPl : P.length ≤ 60 := by rw [hP, List.length_map]; omega
    rw [← hP] at hs hcl
    have HP := Lib.hid hP
    clear hP
    obtain ⟨Q, hQ⟩ : ∃ Q, Q = P.map (keyedB seed) := ⟨_, rfl⟩
    have hql : Q.length = P.length := by rw [hQ, List.length_map]
    rw [← hQ] at hs
    have HQ := Lib.hid hQ; have HQL := Lib.hid hql
    obtain ⟨A7, c7, rfl⟩ := row_slice hs.o7
    obtain ⟨A8, c8, rfl⟩ := row_slice (row_len hql hs.o8)
    clear hQ hql
    have hk1 : 1 ≤ seed.size ∧ seed.size ≤ 32 := by unfold badK at hgood; omega
    have hKY := fun (u : World) (hu : Below w.heap.size w u) => keyed_ok seed x.1 hk1.1 hk1.2 (by have := x.2.2; omega) u (HT.out.below hu HT.out.size)
    obtain ⟨kx, hkx⟩ : ∃ kx, kx = keyedB seed x.1 := ⟨_, rfl⟩
    rw [← hkx] at hKY
    have HKX := Lib.hid hkx; have HKY := Lib.hid hKY; have HBW := Lib.hid hbw; have HCL := Lib.hid hcl; have HSW := Lib.hid hs
    have hc0 := hs.s0.cell
    clear hkx hKY hbw hcl hs hgood hk1
    gi_wp2_with (refine ⟨trivial, ?_⟩; gi_at_call 28; refine (CallsIn.inRound _ (callsIn_wide.2 (HKY.out _ HBW.out))).mono ?_; rintro e u ⟨rfl, hbu⟩; have HS := Lib.hid (HSW.out.bel hbu); have hc7 : u.cell? ⟨w.heap.size + 1 + 1 + 1 + 1, 0, none⟩ = some (.slice A7 P.length c7) := HS.out.b7.cell; have hc8 : u.cell? ⟨w.heap.size + 1 + 1 + 1 + 1 + 1, 0, none⟩ = some (.slice A8 P.length c8) := HS.out.b8.cell; clear hbu HKY HSW hc0)
    gi_loop [23] (fun y => ∃ k : Nat, k ≤ P.length ∧ y = .int .i64 (k : Int) ∧ Hid (∀ j z, j < k → P[j]? = some z → ¬ hitP seed z x.1)) (fun y => P.length + 1 - (intOf y).toNat)
    case atStart => exact ⟨0, Nat.zero_le _, rfl, Lib.hid fun j z h => absurd h (Nat.not_lt_zero _)⟩
    case round =>
      obtain ⟨k, hk, rfl, HN⟩ := hrel
      by_cases hlt : k < P.length
      · obtain ⟨z, hz⟩ : ∃ z, P[k]? = some z := ⟨_, List.getElem?_eq_getElem hlt⟩
        have hq : Q[k]? = some (keyedB seed z) := by rw [HQ.out, List.getElem?_map, hz]; rfl
        obtain ⟨g8, rfl, hx8⟩ := row_at (row_len HQL.out HS.out.o8) hlt hq
        obtain ⟨g7, rfl, hx7⟩ := row_at HS.out.o7 hlt hz
        have hlt1 : decide ((k : Int) < (P.length : Int)) = true := by simp; omega
        have hlt2 : decide (k < P.length) = true := by simp; omega
        obtain ⟨kz, hkz⟩ : ∃ kz, kz = keyedB seed z := ⟨_, rfl⟩
        rw [← hkz] at hx8
        have HKZ := Lib.hid hkz; have HZ := Lib.hid hz
        clear hq hkz hz
        by_cases h1 : kz = kx
        · have e1 : (kz.toList == kx.toList) = true := by rw [h1]; simp
          by_cases h2 : z = x.1
          · have e2 : (z.toList == x.1.toList) = true := by rw [h2]; simp
            have e3 : (z.toList != x.1.toList) = false := by rw [h2]; simp
            have H1 := Lib.hid h1; have H2 := Lib.hid h2
            clear h1 h2
            gi_wp2
            go_round
            case rel => exact ⟨k + 1, by omega, by go_num, Lib.hid fun j y hj hy => by
              rcases Nat.lt_succ_iff_lt_or_eq.1 hj with h | rfl
              · exact HN.out j y h hy
              · rw [HZ.out] at hy
                cases hy
                exact fun hh => hh.2.2.1 H2.out⟩
            case measure => simp [intOf]; omega
          · have e2 : (z.toList == x.1.toList) = false := ba_ne h2
            have e3 : (z.toList != x.1.toList) = true := by rw [bne, ba_ne h2]; rfl
            have H1 := Lib.hid h1; have H2 := Lib.hid h2
            clear h1 h2
            obtain ⟨q1, hr1⟩ := HS.out.r1
            obtain ⟨q2, hr2⟩ := HS.out.r2
            obtain ⟨q3, hr3⟩ := HS.out.r3
            have hcr1 : u.cell? ⟨w.heap.size + 1, 0, none⟩ = some q1 := hr1.cell; have hfr1 : u.frozen? ⟨w.heap.size + 1, 0, none⟩ = false := hr1.frozen
            have hcr2 : u.cell? ⟨w.heap.size + 1 + 1, 0, none⟩ = some q2 := hr2.cell; have hfr2 : u.frozen? ⟨w.heap.size + 1 + 1, 0, none⟩ = false := hr2.frozen
            have hcr3 : u.cell? ⟨w.heap.size + 1 + 1 + 1, 0, none⟩ = some q3 := hr3.cell; have hfr3 : u.frozen? ⟨w.heap.size + 1 + 1 + 1, 0, none⟩ = false := hr3.frozen
            have HR := Lib.hid (And.intro hr1 (And.intro hr2 hr3))
            clear hr1 hr2 hr3
            gi_wp2
            obtain ⟨hr1, hr2, hr3⟩ := HR.out
            have hS := HS.out
            have hmem : z ∈ pre.map (·.1) := HP.out ▸ List.mem_of_getElem? HZ.out
            obtain ⟨zz, _, hzz⟩ := List.mem_map.1 hmem
            have hzs : 1 < z.size := by rw [← hzz]; exact zz.2.1
            have hhit : hitP seed z x.1 := ⟨(fun e => by rw [e] at hzs; cases hzs), (fun e => by have := x.2.1; rw [e] at this; cases this), H2.out, by rw [← HKZ.out, H1.out, HKX.out]⟩
            exact ⟨((hS.keeps.trans ((KeepsOthers.setCell _ _ _).from _)).trans ((KeepsOthers.setCell _ _ _).from _)).trans ((KeepsOthers.setCell _ _ _).from _), rfl, P, x.1, z, by rw [List.map_append, ← HP.out]; rfl, HCL.out, find_place seed x.1 P k z HZ.out hhit (fun j y hj hy => HN.out j y hj hy),
              ((hr1.set _).other (by omega) _).other (by omega) _, ((hr2.other (by omega) _).set _).other (by omega) _, ((hr3.other (by omega) _).other (by omega) _).set _, (((HBW.out.trans hS.below).setCell (Nat.le_add_right w.heap.size 1) _).setCell (Nat.le_add_right w.heap.size 2) _).setCell (Nat.le_add_right w.heap.size 3) _⟩
        · have e1 : (kz.toList == kx.toList) = false := ba_ne h1
          have H1 := Lib.hid h1
          clear h1
          gi_wp2
          go_round
          case rel => exact ⟨k + 1, by omega, by go_num, Lib.hid fun j y hj hy => by
            rcases Nat.lt_succ_iff_lt_or_eq.1 hj with h | rfl
            · exact HN.out j y h hy
            · rw [HZ.out] at hy
              cases hy
              exact fun hh => H1.out (by rw [HKZ.out, HKX.out]; exact hh.2.2.2)⟩
          case measure => simp [intOf]; omega
      · obtain rfl : k = P.length := by omega
        have hlt1 : decide ((P.length : Int) < (P.length : Int)) = false := by simp
        have hlt2 : decide (P.length < P.length) = false := by simp
        have mixed : Tryd.prog.follows .mixedOrders = true := by kernel_rfl
        gi_wp2
        refine HeldI.region_ [0, 1, 4, 5] (fun z v => (z = 0 → Boxed v (w.heap.size + 1 + 1 + 1 + 1) 65 (.slice A7 P.length c7)) ∧ (z = 4 → Boxed v (w.heap.size + 1 + 1 + 1 + 1 + 1) 65 (.slice A8 P.length c8))) 10 mixed rfl ?_
        have hX := HS.out.drew
        clear HS
        generalize u.drew = X at hX ⊢
        have HS := Lib.hid hX; have HS0 := Lib.hid hX
        clear hX
        refine HeldI.take_ 0 (.slice A7 P.length c7) (fun _ => trivial) (by kernel_rfl) rfl (by kernel_rfl) (fun _ _ _ h => h) ⟨fun _ => HS.out.b7, fun _ => HS.out.b8⟩ rfl (fun v hv => ?_) ?_
        · have := (hv.1 rfl).cell
          clear hv
          go_simp
        simp only [Act.put, List.setIfInBounds_toArray, List.set_cons_zero, List.set_cons_succ]
        refine HeldI.take_ 1 (.string x.1) (fun _ => trivial) (by kernel_rfl) rfl (by kernel_rfl) (fun _ _ _ h => h) ⟨fun _ => HS.out.b7, fun _ => HS.out.b8⟩ rfl (fun v hv => ?_) ?_
        · clear hv
          go_simp
        simp only [Act.put, List.setIfInBounds_toArray, List.set_cons_zero, List.set_cons_succ]
        refine HeldI.take_ 4 (.slice A8 P.length c8) (fun _ => trivial) (by kernel_rfl) rfl (by kernel_rfl) (fun _ _ _ h => h) ⟨fun _ => HS.out.b7, fun _ => HS.out.b8⟩ rfl (fun v hv => ?_) ?_
        · have := (hv.2 rfl).cell
          clear hv
          go_simp
        simp only [Act.put, List.setIfInBounds_toArray, List.set_cons_zero, List.set_cons_succ]
        refine HeldI.take_ 5 (.string kx) (fun _ => trivial) (by kernel_rfl) rfl (by kernel_rfl) (fun _ _ _ h => h) ⟨fun _ => HS.out.b7, fun _ => HS.out.b8⟩ rfl (fun v hv => ?_) ?_
        · clear hv
          go_simp
        simp only [Act.put, List.setIfInBounds_toArray, List.set_cons_zero, List.set_cons_succ]
        refine HeldI.either_ 2 6 (by kernel_rfl) rfl rfl (fun K hK => ?_) (fun K hK => ?_)
        · have HK := Lib.hid hK
          clear hK
          gi_wp2
          have C48 : Hid (∀ j u, [Value.string x.1][j]? = some u → (X.alloc (.cells #[.string x.1] 9)).cell? ((⟨X.heap.size, 0, none⟩ : Addr).add j) = some u) := Lib.hid (by have h := cell_one_new X (.string x.1) 9; exact h)
          have HSn := Lib.hid (HS.out.alloc (.cells #[.string x.1] 9))
          clear HS
          have HS := HSn
          clear HSn
          refine HK.out _ _ (fun z _ _ _ => ⟨fun _ => HS.out.b7, fun _ => HS.out.b8⟩) ?_
          clear HK K
          refine HeldI.either_ 3 6 (by kernel_rfl) rfl rfl (fun K hK => ?_) (fun K hK => ?_)
          · have HK := Lib.hid hK
            clear hK
            have HSZ := HS.out.size
            gi_wp2_with (gi_at_builtin; go_loud (refine wpListIn_append_own_at _ rfl _ _ 65 rfl (w.heap.size + 6) 9 i0 (.string ⟨#[]⟩) 1 16 Tryd.underlying65 hi0 hz0 hsz0 hby0 rfl (by decide) _ P.length _ rfl HS.out.o7 _ 1 1 [.string x.1] rfl rfl C48.out (by simp [Value.oneCell']) (by unfold maxLen; omega) (by omega) HSZ ?_); intro v7 w1 hown' hgrow _ hlies; obtain ⟨g7, cap7, rfl⟩ := ownsRow_succ hown')
            have ho : w1.ownsRow (w.heap.size + 6) 9 1 (.slice (some ⟨g7, 0, none⟩) (P.length + 1) cap7) (P ++ [x.1]).length ((P ++ [x.1]).map .string) := by
              rw [List.length_append, strs_snoc]
              exact hown'
            have HSn := Lib.hid (HS.out.app7 ho hgrow hlies)
            clear HS ho hown' hgrow hlies HSZ
            have HS := HSn
            clear HSn
            refine HK.out _ _ (fun z _ _ _ => ⟨fun _ => HS.out.b7, fun _ => HS.out.b8⟩) ?_
            clear HK K
            refine HeldI.only_ 6 (by kernel_rfl) rfl (fun K hK => ?_)
            have HK := Lib.hid hK
            clear hK
            gi_wp2
            have C52 : Hid (∀ j u, [Value.string kx][j]? = some u → (w1.alloc (.cells #[.string kx] 9)).cell? ((⟨w1.heap.size, 0, none⟩ : Addr).add j) = some u) := Lib.hid (by have h := cell_one_new w1 (.string kx) 9; exact h)
            have HSn := Lib.hid (HS.out.alloc (.cells #[.string kx] 9))
            clear HS
            have HS := HSn
            clear HSn
            refine HK.out _ _ (fun z _ _ _ => ⟨fun _ => HS.out.b7, fun _ => HS.out.b8⟩) ?_
            clear HK K
            refine HeldI.only_ 7 (by kernel_rfl) rfl (fun K hK => ?_)
            have HK := Lib.hid hK
            clear hK
            have HSZ := HS.out.size
            gi_wp2_with (gi_at_builtin; go_loud (refine wpListIn_append_own_at _ rfl _ _ 65 rfl (w.heap.size + 6) 9 i0 (.string ⟨#[]⟩) 1 16 Tryd.underlying65 hi0 hz0 hsz0 hby0 rfl (by decide) _ P.length _ rfl (row_len HQL.out HS.out.o8) _ 1 1 [.string kx] rfl rfl C52.out (by simp [Value.oneCell']) (by unfold maxLen; omega) (by omega) HSZ ?_); intro v8 w2 hown' hgrow _ hlies; obtain ⟨g8, cap8, rfl⟩ := ownsRow_succ hown')
            have ho : w2.ownsRow (w.heap.size + 6) 9 1 (.slice (some ⟨g8, 0, none⟩) (P.length + 1) cap8) (Q ++ [kx]).length ((Q ++ [kx]).map .string) := by
              rw [List.length_append, strs_snoc, HQL.out]
              exact hown'
            have HSn := Lib.hid (HS.out.app8 ho hgrow hlies)
            clear HS ho hown' hgrow hlies HSZ
            have HS := HSn
            clear HSn
            refine HK.out _ _ (fun z _ _ _ => ⟨fun _ => HS.out.b7, fun _ => HS.out.b8⟩) ?_
            clear HK K
            have hcb := HS.out.b7.cell; have hfb := HS.out.b7.frozen; have hcb8 := HS.out.b8.cell; have hfb8 := HS.out.b8.frozen
            refine HeldI.only_ 8 (by kernel_rfl) rfl (fun K hK => ?_)
            have HK := Lib.hid hK
            clear hK
            gi_wp2
            refine HK.out _ _ (fun z hz hn _ => ⟨fun e => by subst e; exact absurd hn (Bool.eq_false_iff.1 (by kernel_rfl)), fun _ => (HS.out.set7 _).b8⟩) ?_
            clear HK K
            refine HeldI.only_ 9 (by kernel_rfl) rfl (fun K hK => ?_)
            have HK := Lib.hid hK
            clear hK
            gi_wp2
            refine HK.out _ _ (fun z hz hn _ => by simp only [List.mem_cons, List.not_mem_nil, or_false] at hz; rcases hz with rfl | rfl | rfl | rfl <;> first | exact ⟨fun e => by cases e, fun e => by cases e⟩ | exact absurd hn (Bool.eq_false_iff.1 (by kernel_rfl))) ?_
            refine HeldI.done_ (by kernel_rfl) ?_
            have hf := (HS.out.set7 (.slice (some ⟨g7, 0, none⟩) (P.length + 1) cap7)).set8 (.slice (some ⟨g8, 0, none⟩) (P.length + 1) cap8)
            exact ⟨hf.keeps, ⟨hf.below.mono hn₀, hf.below.block Bf hBf⟩, tw_next hf.self (HBW.out.trans hf.below) HCL.out HP.out HN.out HQ.out HKX.out⟩
          · have HK := Lib.hid hK
            clear hK
            gi_wp2
            have C52 : Hid (∀ j u, [Value.string kx][j]? = some u → ((X.alloc (.cells #[.string x.1] 9)).alloc (.cells #[.string kx] 9)).cell? ((⟨X.heap.size + 1, 0, none⟩ : Addr).add j) = some u) := Lib.hid (by have h := cell_one_new (X.alloc (.cells #[.string x.1] 9)) (.string kx) 9; rw [World.size_alloc] at h; exact h)
            have C48a := Lib.hid (fun j u (h : [Value.string x.1][j]? = some u) => cell_alloc_l' (.cells #[.string kx] 9) (C48.out j u h))
            clear C48
            have C48 := C48a
            clear C48a
            have HSn := Lib.hid (HS.out.alloc (.cells #[.string kx] 9))
            clear HS
            have HS := HSn
            clear HSn
            refine HK.out _ _ (fun z _ _ _ => ⟨fun _ => HS.out.b7, fun _ => HS.out.b8⟩) ?_
            clear HK K
            refine HeldI.only_ 3 (by kernel_rfl) rfl (fun K hK => ?_)
            have HK := Lib.hid hK
            clear hK
            have HSZ := HS.out.size
            gi_wp2_with (gi_at_builtin; go_loud (refine wpListIn_append_own_at _ rfl _ _ 65 rfl (w.heap.size + 6) 9 i0 (.string ⟨#[]⟩) 1 16 Tryd.underlying65 hi0 hz0 hsz0 hby0 rfl (by decide) _ P.length _ rfl HS.out.o7 _ 1 1 [.string x.1] rfl rfl C48.out (by simp [Value.oneCell']) (by unfold maxLen; omega) (by omega) HSZ ?_); intro v7 w1 hown' hgrow _ hlies; obtain ⟨g7, cap7, rfl⟩ := ownsRow_succ hown')
            have ho : w1.ownsRow (w.heap.size + 6) 9 1 (.slice (some ⟨g7, 0, none⟩) (P.length + 1) cap7) (P ++ [x.1]).length ((P ++ [x.1]).map .string) := by
              rw [List.length_append, strs_snoc]
              exact hown'
            have C52a := Lib.hid (fun j u (h : [Value.string kx][j]? = some u) => hgrow.cell (C52.out j u h) (new_ne HS0.out.o7 _ (by rw [addr_blk]; first | exact Nat.le_refl _ | exact Nat.le_add_right _ _)))
            clear C52
            have C52 := C52a
            clear C52a
            have HSn := Lib.hid (HS.out.app7 ho hgrow hlies)
            clear HS ho hown' hgrow hlies HSZ
            have HS := HSn
            clear HSn
            refine HK.out _ _ (fun z _ _ _ => ⟨fun _ => HS.out.b7, fun _ => HS.out.b8⟩) ?_
            clear HK K
            refine HeldI.only_ 7 (by kernel_rfl) rfl (fun K hK => ?_)
            have HK := Lib.hid hK
            clear hK
            have HSZ := HS.out.size
            gi_wp2_with (gi_at_builtin; go_loud (refine wpListIn_append_own_at _ rfl _ _ 65 rfl (w.heap.size + 6) 9 i0 (.string ⟨#[]⟩) 1 16 Tryd.underlying65 hi0 hz0 hsz0 hby0 rfl (by decide) _ P.length _ rfl (row_len HQL.out HS.out.o8) _ 1 1 [.string kx] rfl rfl C52.out (by simp [Value.oneCell']) (by unfold maxLen; omega) (by omega) HSZ ?_); intro v8 w2 hown' hgrow _ hlies; obtain ⟨g8, cap8, rfl⟩ := ownsRow_succ hown')
            have ho : w2.ownsRow (w.heap.size + 6) 9 1 (.slice (some ⟨g8, 0, none⟩) (P.length + 1) cap8) (Q ++ [kx]).length ((Q ++ [kx]).map .string) := by
              rw [List.length_append, strs_snoc, HQL.out]
              exact hown'
            have HSn := Lib.hid (HS.out.app8 ho hgrow hlies)
            clear HS ho hown' hgrow hlies HSZ
            have HS := HSn
            clear HSn
            refine HK.out _ _ (fun z _ _ _ => ⟨fun _ => HS.out.b7, fun _ => HS.out.b8⟩) ?_
            clear HK K
            have hcb := HS.out.b7.cell; have hfb := HS.out.b7.frozen; have hcb8 := HS.out.b8.cell; have hfb8 := HS.out.b8.frozen
            refine HeldI.only_ 8 (by kernel_rfl) rfl (fun K hK => ?_)
            have HK := Lib.hid hK
            clear hK
            gi_wp2
            refine HK.out _ _ (fun z hz hn _ => ⟨fun e => by subst e; exact absurd hn (Bool.eq_false_iff.1 (by kernel_rfl)), fun _ => (HS.out.set7 _).b8⟩) ?_
            clear HK K
            refine HeldI.only_ 9 (by kernel_rfl) rfl (fun K hK => ?_)
            have HK := Lib.hid hK
            clear hK
            gi_wp2
            refine HK.out _ _ (fun z hz hn _ => by simp only [List.mem_cons, List.not_mem_nil, or_false] at hz; rcases hz with rfl | rfl | rfl | rfl <;> first | exact ⟨fun e => by cases e, fun e => by cases e⟩ | exact absurd hn (Bool.eq_false_iff.1 (by kernel_rfl))) ?_
            refine HeldI.done_ (by kernel_rfl) ?_
            have hf := (HS.out.set7 (.slice (some ⟨g7, 0, none⟩) (P.length + 1) cap7)).set8 (.slice (some ⟨g8, 0, none⟩) (P.length + 1) cap8)
            exact ⟨hf.keeps, ⟨hf.below.mono hn₀, hf.below.block Bf hBf⟩, tw_next hf.self (HBW.out.trans hf.below) HCL.out HP.out HN.out HQ.out HKX.out⟩
        · have HK := Lib.hid hK
          clear hK
          gi_wp2
          have C52 : Hid (∀ j u, [Value.string kx][j]? = some u → (X.alloc (.cells #[.string kx] 9)).cell? ((⟨X.heap.size, 0, none⟩ : Addr).add j) = some u) := Lib.hid (by have h := cell_one_new X (.string kx) 9; exact h)
          have HSn := Lib.hid (HS.out.alloc (.cells #[.string kx] 9))
          clear HS
          have HS := HSn
          clear HSn
          refine HK.out _ _ (fun z _ _ _ => ⟨fun _ => HS.out.b7, fun _ => HS.out.b8⟩) ?_
          clear HK K
          refine HeldI.only_ 2 (by kernel_rfl) rfl (fun K hK => ?_)
          have HK := Lib.hid hK
          clear hK
          gi_wp2
          have C48 : Hid (∀ j u, [Value.string x.1][j]? = some u → ((X.alloc (.cells #[.string kx] 9)).alloc (.cells #[.string x.1] 9)).cell? ((⟨X.heap.size + 1, 0, none⟩ : Addr).add j) = some u) := Lib.hid (by have h := cell_one_new (X.alloc (.cells #[.string kx] 9)) (.string x.1) 9; rw [World.size_alloc] at h; exact h)
          have C52a := Lib.hid (fun j u (h : [Value.string kx][j]? = some u) => cell_alloc_l' (.cells #[.string x.1] 9) (C52.out j u h))
          clear C52
          have C52 := C52a
          clear C52a
          have HSn := Lib.hid (HS.out.alloc (.cells #[.string x.1] 9))
          clear HS
          have HS := HSn
          clear HSn
          refine HK.out _ _ (fun z _ _ _ => ⟨fun _ => HS.out.b7, fun _ => HS.out.b8⟩) ?_
          clear HK K
          refine HeldI.only_ 3 (by kernel_rfl) rfl (fun K hK => ?_)
          have HK := Lib.hid hK
          clear hK
          have HSZ := HS.out.size
          gi_wp2_with (gi_at_builtin; go_loud (refine wpListIn_append_own_at _ rfl _ _ 65 rfl (w.heap.size + 6) 9 i0 (.string ⟨#[]⟩) 1 16 Tryd.underlying65 hi0 hz0 hsz0 hby0 rfl (by decide) _ P.length _ rfl HS.out.o7 _ 1 1 [.string x.1] rfl rfl C48.out (by simp [Value.oneCell']) (by unfold maxLen; omega) (by omega) HSZ ?_); intro v7 w1 hown' hgrow _ hlies; obtain ⟨g7, cap7, rfl⟩ := ownsRow_succ hown')
          have ho : w1.ownsRow (w.heap.size + 6) 9 1 (.slice (some ⟨g7, 0, none⟩) (P.length + 1) cap7) (P ++ [x.1]).length ((P ++ [x.1]).map .string) := by
            rw [List.length_append, strs_snoc]
            exact hown'
          have C52a := Lib.hid (fun j u (h : [Value.string kx][j]? = some u) => hgrow.cell (C52.out j u h) (new_ne HS0.out.o7 _ (by rw [addr_blk]; first | exact Nat.le_refl _ | exact Nat.le_add_right _ _)))
          clear C52
          have C52 := C52a
          clear C52a
          have HSn := Lib.hid (HS.out.app7 ho hgrow hlies)
          clear HS ho hown' hgrow hlies HSZ
          have HS := HSn
          clear HSn
          refine HK.out _ _ (fun z _ _ _ => ⟨fun _ => HS.out.b7, fun _ => HS.out.b8⟩) ?_
          clear HK K
          refine HeldI.only_ 7 (by kernel_rfl) rfl (fun K hK => ?_)
          have HK := Lib.hid hK
          clear hK
          have HSZ := HS.out.size
          gi_wp2_with (gi_at_builtin; go_loud (refine wpListIn_append_own_at _ rfl _ _ 65 rfl (w.heap.size + 6) 9 i0 (.string ⟨#[]⟩) 1 16 Tryd.underlying65 hi0 hz0 hsz0 hby0 rfl (by decide) _ P.length _ rfl (row_len HQL.out HS.out.o8) _ 1 1 [.string kx] rfl rfl C52.out (by simp [Value.oneCell']) (by unfold maxLen; omega) (by omega) HSZ ?_); intro v8 w2 hown' hgrow _ hlies; obtain ⟨g8, cap8, rfl⟩ := ownsRow_succ hown')
          have ho : w2.ownsRow (w.heap.size + 6) 9 1 (.slice (some ⟨g8, 0, none⟩) (P.length + 1) cap8) (Q ++ [kx]).length ((Q ++ [kx]).map .string) := by
            rw [List.length_append, strs_snoc, HQL.out]
            exact hown'
          have HSn := Lib.hid (HS.out.app8 ho hgrow hlies)
          clear HS ho hown' hgrow hlies HSZ
          have HS := HSn
          clear HSn
          refine HK.out _ _ (fun z _ _ _ => ⟨fun _ => HS.out.b7, fun _ => HS.out.b8⟩) ?_
          clear HK K
          have hcb := HS.out.b7.cell; have hfb := HS.out.b7.frozen; have hcb8 := HS.out.b8.cell; have hfb8 := HS.out.b8.frozen
          refine HeldI.only_ 8 (by kernel_rfl) rfl (fun K hK => ?_)
          have HK := Lib.hid hK
          clear hK
          gi_wp2
          refine HK.out _ _ (fun z hz hn _ => ⟨fun e => by subst e; exact absurd hn (Bool.eq_false_iff.1 (by kernel_rfl)), fun _ => (HS.out.set7 _).b8⟩) ?_
          clear HK K
          refine HeldI.only_ 9 (by kernel_rfl) rfl (fun K hK => ?_)
          have HK := Lib.hid hK
          clear hK
          gi_wp2
          refine HK.out _ _ (fun z hz hn _ => by simp only [List.mem_cons, List.not_mem_nil, or_false] at hz; rcases hz with rfl | rfl | rfl | rfl <;> first | exact ⟨fun e => by cases e, fun e => by cases e⟩ | exact absurd hn (Bool.eq_false_iff.1 (by kernel_rfl))) ?_
          refine HeldI.done_ (by kernel_rfl) ?_
          have hf := (HS.out.set7 (.slice (some ⟨g7, 0, none⟩) (P.length + 1) cap7)).set8 (.slice (some ⟨g8, 0, none⟩) (P.length + 1) cap8)
          exact ⟨hf.keeps, ⟨hf.below.mono hn₀, hf.below.block Bf hBf⟩, tw_next hf.self (HBW.out.trans hf.below) HCL.out HP.out HN.out HQ.out HKX.out⟩
  case done =>
    rintro D ys W3 hD hS ⟨v7, v8, hs, hbw, hcl⟩ hK
    obtain ⟨q1, hr1⟩ := hs.r1
    obtain ⟨q2, hr2⟩ := hs.r2
    obtain ⟨q3, hr3⟩ := hs.r3
    have hcr1 : W3.cell? ⟨w.heap.size + 1, 0, none⟩ = some q1 := hr1.cell; have hfr1 : W3.frozen? ⟨w.heap.size + 1, 0, none⟩ = false := hr1.frozen
    have hcr2 : W3.cell? ⟨w.heap.size + 1 + 1, 0, none⟩ = some q2 := hr2.cell; have hfr2 : W3.frozen? ⟨w.heap.size + 1 + 1, 0, none⟩ = false := hr2.frozen
    have hcr3 : W3.cell? ⟨w.heap.size + 1 + 1 + 1, 0, none⟩ = some q3 := hr3.cell; have hfr3 : W3.frozen? ⟨w.heap.size + 1 + 1 + 1, 0, none⟩ = false := hr3.frozen
    have HA := Lib.hid (And.intro hr1 (And.intro hr2 (And.intro hr3 (And.intro hbw (And.intro hcl (And.intro hK hS))))))
    clear hs0 hB0 HSQ hs hr1 hr2 hr3 hbw hcl hK hS
    gi_wp2
    obtain ⟨hr1, hr2, hr3, hbw, hcl, hK, hS⟩ := HA.out
    have B1 := ((hr1.set (.string ⟨#[]⟩)).other (B' := w.heap.size + 1 + 1) (by omega) (.string ⟨#[]⟩)).other (B' := w.heap.size + 1 + 1 + 1) (by omega) (.bool false)
    have B2 := ((hr2.other (B' := w.heap.size + 1) (by omega) (.string ⟨#[]⟩)).set (.string ⟨#[]⟩)).other (B' := w.heap.size + 1 + 1 + 1) (by omega) (.bool false)
    have B3 := ((hr3.other (B' := w.heap.size + 1) (by omega) (.string ⟨#[]⟩)).other (B' := w.heap.size + 1 + 1) (by omega) (.string ⟨#[]⟩)).set (.bool false)
    have hKu : (((W3.setCell ⟨w.heap.size + 1, 0, none⟩ (.string ⟨#[]⟩)).setCell ⟨w.heap.size + 1 + 1, 0, none⟩ (.string ⟨#[]⟩)).setCell ⟨w.heap.size + 1 + 1 + 1, 0, none⟩ (.bool false)).heap[D]? = some (.deferred (some [])) :=
      (Below.heap_setCell _ _ _ D (by show D ≠ w.heap.size + 1 + 1 + 1; omega)).trans ((Below.heap_setCell _ _ _ D (by show D ≠ w.heap.size + 1 + 1; omega)).trans ((Below.heap_setCell _ _ _ D (by show D ≠ w.heap.size + 1; omega)).trans hK))
    have hBel := ((hbw.setCell (p := ⟨w.heap.size + 1, 0, none⟩) (Nat.le_add_right w.heap.size 1) (.string ⟨#[]⟩)).setCell (p := ⟨w.heap.size + 1 + 1, 0, none⟩) (Nat.le_add_right w.heap.size 2) (.string ⟨#[]⟩)).setCell (p := ⟨w.heap.size + 1 + 1 + 1, 0, none⟩) (Nat.le_add_right w.heap.size 3) (.bool false)
    generalize (((W3.setCell ⟨w.heap.size + 1, 0, none⟩ (.string ⟨#[]⟩)).setCell ⟨w.heap.size + 1 + 1, 0, none⟩ (.string ⟨#[]⟩)).setCell ⟨w.heap.size + 1 + 1 + 1, 0, none⟩ (.bool false)) = V at B1 B2 B3 hKu hBel ⊢
    have C1 : ∀ o', (V.putObj D o').cell? ⟨w.heap.size + 1, 0, none⟩ = some (.string ⟨#[]⟩) := fun o' => (B1.kept (grownBy_putObj' V D o') (by simp; omega)).cell
    have C2 : ∀ o', (V.putObj D o').cell? ⟨w.heap.size + 1 + 1, 0, none⟩ = some (.string ⟨#[]⟩) := fun o' => (B2.kept (grownBy_putObj' V D o') (by simp; omega)).cell
    have C3 : ∀ o', (V.putObj D o').cell? ⟨w.heap.size + 1 + 1 + 1, 0, none⟩ = some (.bool false) := fun o' => (B3.kept (grownBy_putObj' V D o') (by simp; omega)).cell
    refine ⟨by simp, .inl ⟨_, _, rfl, run_takeDeferred hKu, ?_⟩⟩
    refine ⟨_, by simp [results, Tryd.results35, go_sem, C1, C2, C3]; rfl, ?_, ?_⟩
    · rw [← hS, hcl.done]
    · exact hBel.trans (belowK_b (w := w) (Nat.le_refl _) V D _ _ (by omega) hKu rfl rfl)
  case stop =>
    rintro D c pre W3 hD hS ⟨rfl, p, x, y, h1, h2, h3, B1, B2, B3, hBel⟩ hKu
    rw [h1] at hS
    have HA := Lib.hid (h2.hit hS h3)
    clear hs0 hB0 HSQ h1 h2 h3 hS
    gi_wp2
    have C1 : ∀ o', (W3.putObj D o').cell? ⟨w.heap.size + 1, 0, none⟩ = some (.string y) := fun o' => (B1.kept (grownBy_putObj' W3 D o') (by simp; omega)).cell
    have C2 : ∀ o', (W3.putObj D o').cell? ⟨w.heap.size + 1 + 1, 0, none⟩ = some (.string x) := fun o' => (B2.kept (grownBy_putObj' W3 D o') (by simp; omega)).cell
    have C3 : ∀ o', (W3.putObj D o').cell? ⟨w.heap.size + 1 + 1 + 1, 0, none⟩ = some (.bool true) := fun o' => (B3.kept (grownBy_putObj' W3 D o') (by simp; omega)).cell
    refine ⟨by simp, .inl ⟨_, _, rfl, run_takeDeferred hKu, ?_⟩⟩
    refine ⟨_, by simp [results, Tryd.results35, go_sem, C1, C2, C3]; rfl, ?_, ?_⟩
    · rw [HA.out]
    · exact hBel.trans (belowK_b (w := w) (Nat.le_refl _) W3 D _ _ (by omega) hKu rfl rfl)
end Go.Proofs.YtbckobokiioeaaaDoor
