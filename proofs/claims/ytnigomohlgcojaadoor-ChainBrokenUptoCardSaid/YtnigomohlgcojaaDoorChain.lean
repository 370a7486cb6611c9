/- chain.each, Head, Links: bodies chained; in the form that the print takes. -/
import Derived.Test.YtnigomohlgcojaaDoorQ
import Derived.Lib.Hide
set_option linter.unusedVariables false
set_option linter.unusedSimpArgs false
namespace Go.Proofs.YtnigomohlgcojaaDoor
open Go.RowKit Go.Proofs.YtnigomohlgcojaaDoor.Q Go.Proofs.YtnigomohlgcojaaDoorW.PrintWords

/-- The sum behind all bodies, from one on. -/
def eachF : ByteArray → List ByteArray → Option (ByteArray × Int)
  | p, [] => some (p, 0)
  | p, b :: r => (chain_Next.f p b).bind fun t => if t.2 = 0 then eachF t.1 r else some (⟨#[]⟩, t.2)
def nextB (p b : ByteArray) : ByteArray := ((chain_Next.f p b).getD (⟨#[]⟩, 0)).1
/-- Bodies, chained. -/
def linksL : ByteArray → List ByteArray → List S40
  | _, [] => []
  | p, b :: r => ⟨p, b⟩ :: linksL (nextB p b) r
theorem linksL_length : ∀ (p : ByteArray) (l : List ByteArray), (linksL p l).length = l.length
  | _, [] => rfl
  | p, b :: r => by simp [linksL, linksL_length (nextB p b) r]
theorem drop_getD (l : List ByteArray) (i : Nat) (h : i < l.length) : l.drop i = l.getD i ByteArray.empty :: l.drop (i + 1) := by
  rw [List.drop_eq_getElem_cons h, List.getD_eq_getElem?_getD, List.getElem?_eq_getElem h]
  rfl
theorem rd_nat (l : List ByteArray) (i : Nat) : rdOf ByteArray.empty l (i : Int) = l.getD i ByteArray.empty := by
  unfold rdOf
  rw [Int.toNat_natCast]
/-- Links' memory: the cell that holds what was chained so far. -/
structure LI (w u : World) (B : Nat) (xs : List S40) : Prop where
  below : Below w.heap.size w u
  own : ∃ v, RowIs u B 32 [v] ∧ Kd.R k40 40 u w.heap.size (fun _ => True) v xs
/-- How Links' pass ends. -/
def LE (w0 : World) (B : Nat) (r2 : Int) (LL : List S40) (w' : World) : Prop := ∃ xs, LI w0 w' B xs ∧ (r2 = 0 → xs = LL)
theorem LI.step {w u u' : World} {B : Nat} {xs : List S40} (h : LI w u B xs) (hb : Below u.heap.size u u') : LI w u' B xs := by
  obtain ⟨h1, v, h2, h3⟩ := h
  exact ⟨h1.trans (hb.mono h1.size), v, h2.below hb, Kd.R_below h3 hb⟩
set_option maxHeartbeats 1000000 in
set_option maxRecDepth 100000 in
theorem links_step (w u : World) (B : Nat) (hwB : w.heap.size ≤ B) (xs : List S40) (p b : ByteArray) (hI : LI w u B xs) (hn : xs.length < 4294967296) :
    Calls Tryd.prog 33 #[.string p, .string b, .pointer (some ⟨B, 0, none⟩)] u fun e u' => e = .returned (.tuple #[]) ∧ LI w u' B (xs ++ [⟨p, b⟩]) := by
  obtain ⟨hB, v, hR, hO⟩ := hI
  have hcl := hR.cell (i := 0) rfl
  have HR := Aside0.mk hR; have HO := Aside0.mk hO; have HB := Aside0.mk hB
  clear hR hO hB
  go_enter Tryd.func33, Tryd.ntmps33
  go_wp2_with (at_builtin; refine Kd.R_append k40 (w0 := w) w.heap.size rfl (.tmp 5) (.tmp 9) 32 40 (.agg #[(.string ⟨#[]⟩), (.string ⟨#[]⟩)]) 32 rfl Tryd.underlying32 info40 rfl (by decide) (by omega) v xs (⟨p, b⟩ : S40) [.string p, .string b] (fun _ => True) (fun _ => False) rfl rfl ?aP (fun _ hk => hk.elim) (fun _ _ => trivial) HO.out HB.out HB.out.size ?aL ?_; (case aP => exact k40_mkM _ _ _ (⟨p, b⟩ : S40)); (case aL => omega); intro v1 w1 ho hb hg hat; obtain ⟨A1, c1, rfl, hl1, hC1⟩ := Kd.R_reads ho; clear hl1 hC1; have hR1 := HR.out.grown hg (Kd.R_ne HO.out HR.out (by decide)); have hfz := hR1.frozen 0; have hcl1 := hR1.cell (i := 0) rfl; have HR1 := Aside0.mk hR1; have HO1 := Aside0.mk ho; have HB1 := Aside0.mk hb; clear ho hb hg hat hR1)
  go_end0
  refine ⟨rfl, HB1.out.setCell hwB _, .slice A1 (xs.length + 1) c1, ?_, ?_⟩
  · have := HR1.out.set 0 (.slice A1 (xs.length + 1) c1)
    exact this
  · have h := Kd.R_set HO1.out HR1.out (by decide) 0 (.slice A1 (xs.length + 1) c1)
    have el : (xs ++ [(⟨p, b⟩ : S40)]).length = xs.length + 1 := by simp
    rw [el] at h
    exact h

set_option maxHeartbeats 1000000 in
set_option maxRecDepth 100000 in
theorem each_head (A0 : Option Addr) (c0 : Nat) (l : List ByteArray) (r1 : ByteArray) (r2 : Int) (w : World) (hT : Tabs w) (hr : Kd.C Kd.string w A0 l.length l) (hm : l.length ≤ 9223372036854775806) (h : eachF ⟨#[]⟩ l = some (r1, r2)) :
    Calls Tryd.prog 31 #[.slice A0 l.length c0, .func (.func 32) #[] #[]] w fun e w' => e = .returned (.tuple #[.string r1, .int .i64 r2]) ∧ Below w.heap.size w w' := by
  have HC := Aside0.mk hr; have HH := Lib.hid h
  clear hr h
  have hB := Below.refl w.heap.size w
  go_enter Tryd.func31, Tryd.ntmps31
  go_wp2
  go_loopw [6, 13] (fun p i u => ∃ (k : Nat) (q : ByteArray), k ≤ l.length ∧ i = .int .i64 k ∧ p = .string q ∧ Hid (eachF q (l.drop k) = some (r1, r2)) ∧ Below w.heap.size w u) (fun _ i _ => l.length - (intOf i).toNat)
  case atStart => exact ⟨0, ⟨#[]⟩, by omega, rfl, rfl, HH, hB⟩
  case round =>
    clear hB HH
    obtain ⟨k, q, hk, rfl, rfl, HH, hB⟩ := hrel
    by_cases hlt : k < l.length
    · have hE := HH.out
      rw [drop_getD l k hlt] at hE
      obtain ⟨ad, rfl, hcell⟩ := Kd.at_string HC.out (k : Int) (by omega) (by omega)
      rw [rd_nat] at hcell
      replace hcell := (hB.cell (World.block_lt_of_cell? w _ hcell)).trans hcell
      simp only [Int.toNat_natCast] at hcell
      generalize l.getD k ByteArray.empty = b at *
      clear HH
      obtain ⟨⟨n1, n2⟩, hN, hE⟩ := Option.bind_eq_some_iff.mp hE
      have HN := Lib.hid hN
      clear hN
      have hdl : decide ((k : Int) < (l.length : Int)) = true := by simp; omega
      by_cases h0 : n2 = 0
      · subst h0
        have hE2 : Hid (eachF n1 (l.drop (k + 1)) = some (r1, r2)) := Lib.hid (by simpa using hE)
        clear hE
        go_wp2_with (first | (go_at_call 15; refine Pause'.out ?_) | (go_at_call 32; refine Pause'.out ?_))
        constructor
        refine (chain_Next.calls q b n1 0 _ (hT.below hB hT.size) HN.out).mono ?_
        rintro e u ⟨rfl, hb⟩
        replace hB := hB.trans (hb.mono hB.size)
        clear hb hcell
        go_wp2_with (go_at_call 32; refine Pause'.out ?_)
        constructor
        refine Calls.mono (R := fun e u' => e = .returned (.tuple #[]) ∧ u = u') ?_ ?_
        · go_enter Tryd.func32, Tryd.ntmps32
          go_wp2
          go_end0
          exact ⟨rfl, rfl⟩
        rintro e u2 ⟨rfl, rfl⟩
        go_wp2
        go_roundw
        case rel => exact ⟨k + 1, n1, by omega, by go_num, rfl, hE2, hB⟩
        case measure => simp [intOf]; omega
      · rw [if_neg h0] at hE
        obtain ⟨rfl, rfl⟩ := Prod.mk.inj (Option.some.inj hE)
        have hb0 : (n2 != 0) = true := bne_iff_ne.mpr h0
        clear hE h0
        go_wp2_with (go_at_call 15; refine Pause'.out ?_)
        constructor
        refine (chain_Next.calls q b n1 n2 _ (hT.below hB hT.size) HN.out).mono ?_
        rintro e u ⟨rfl, hb⟩
        replace hB := hB.trans (hb.mono hB.size)
        clear hb hcell
        go_wp2
        go_ret2
        exact ⟨rfl, hB⟩
    · obtain rfl : k = l.length := by omega
      have hE := HH.out
      rw [List.drop_length] at hE
      obtain ⟨rfl, rfl⟩ := Prod.mk.inj (Option.some.inj hE)
      clear hE HH
      go_wp2
      go_ret2
      exact ⟨rfl, hB⟩

set_option maxHeartbeats 1000000 in
set_option maxRecDepth 100000 in
theorem each_links (A0 : Option Addr) (c0 : Nat) (l : List ByteArray) (r1 : ByteArray) (r2 : Int) (w0 w : World) (B : Nat) (hwB : w0.heap.size ≤ B) (hT : Tabs w0) (hr : Kd.C Kd.string w A0 l.length l) (hm : l.length ≤ 4294967296) (hI : LI w0 w B []) (h : eachF ⟨#[]⟩ l = some (r1, r2)) (hC : ∀ u xs, LI w0 u B xs → Kd.C Kd.string u A0 l.length l) :
    Calls Tryd.prog 31 #[.slice A0 l.length c0, .func (.func 33) #[] #[.pointer (some ⟨B, 0, none⟩)]] w fun e w' => e = .returned (.tuple #[.string r1, .int .i64 r2]) ∧ LE w0 B r2 (linksL ⟨#[]⟩ l) w' := by
  obtain ⟨LL, hLL⟩ : ∃ LL, LL = linksL ⟨#[]⟩ l := ⟨_, rfl⟩
  rw [← hLL]
  have HL0 : Hid ([] ++ linksL ⟨#[]⟩ l = LL) := Lib.hid hLL.symm
  have HC := Aside0.mk hC; have HH := Lib.hid h; have HI := Aside0.mk hI
  clear hr h hC hLL hI
  go_enter Tryd.func31, Tryd.ntmps31
  go_wp2
  go_loopw [6, 13] (fun p i u => ∃ (k : Nat) (q : ByteArray) (xs : List S40), k ≤ l.length ∧ i = .int .i64 k ∧ p = .string q ∧ xs.length = k ∧ Hid (eachF q (l.drop k) = some (r1, r2)) ∧ Hid (xs ++ linksL q (l.drop k) = LL) ∧ Aside0 (LI w0 u B xs)) (fun _ i _ => l.length - (intOf i).toNat)
  case atStart => exact ⟨0, ⟨#[]⟩, [], by omega, rfl, rfl, rfl, HH, HL0, HI⟩
  case round =>
    clear HI HH HL0
    obtain ⟨k, q, xs, hk, rfl, rfl, hxs, HH, HL, HI⟩ := hrel
    have HX := Lib.hid hxs
    clear hxs
    by_cases hlt : k < l.length
    · have hE := HH.out
      have hL := HL.out
      rw [drop_getD l k hlt] at hE hL
      obtain ⟨ad, rfl, hcell⟩ := Kd.at_string (HC.out _ _ HI.out) (k : Int) (by omega) (by omega)
      rw [rd_nat] at hcell
      simp only [Int.toNat_natCast] at hcell
      generalize l.getD k ByteArray.empty = b at *
      clear HH HL
      obtain ⟨⟨n1, n2⟩, hN, hE⟩ := Option.bind_eq_some_iff.mp hE
      have hL2 : Hid ((xs ++ [⟨q, b⟩]) ++ linksL n1 (l.drop (k + 1)) = LL) := by
        refine Lib.hid ?_
        rw [← hL, List.append_assoc]
        show xs ++ (⟨q, b⟩ :: linksL n1 (l.drop (k + 1))) = xs ++ (⟨q, b⟩ :: linksL (nextB q b) (l.drop (k + 1)))
        unfold nextB
        rw [hN]
        rfl
      have HN := Lib.hid hN
      clear hN hL
      have hdl : decide ((k : Int) < (l.length : Int)) = true := by simp; omega
      by_cases h0 : n2 = 0
      · subst h0
        have hE2 : Hid (eachF n1 (l.drop (k + 1)) = some (r1, r2)) := Lib.hid (by simpa using hE)
        clear hE
        go_wp2_with (go_at_call 15; refine Pause'.out ?_)
        constructor
        refine (chain_Next.calls q b n1 0 _ (hT.below HI.out.below hT.size) HN.out).mono ?_
        rintro e u ⟨rfl, hb⟩
        have HI2 := Aside0.mk (HI.out.step hb)
        clear hb hcell HI
        go_wp2_with (go_at_call 33; refine Pause'.out ?_)
        constructor
        refine (links_step w0 _ B hwB xs q b HI2.out (by rw [HX.out]; omega)).mono ?_
        rintro e u2 ⟨rfl, hI3⟩
        have HI3 := Aside0.mk hI3
        clear hI3 HI2
        go_wp2
        go_roundw
        case rel => exact ⟨k + 1, n1, xs ++ [⟨q, b⟩], by omega, by go_num, rfl, by rw [List.length_append, HX.out]; rfl, hE2, hL2, HI3⟩
        case measure => simp [intOf]; omega
      · rw [if_neg h0] at hE
        obtain ⟨rfl, rfl⟩ := Prod.mk.inj (Option.some.inj hE)
        have hb0 : (n2 != 0) = true := bne_iff_ne.mpr h0
        have H0 := Lib.hid h0
        clear hE h0
        go_wp2_with (go_at_call 15; refine Pause'.out ?_)
        constructor
        refine (chain_Next.calls q b n1 n2 _ (hT.below HI.out.below hT.size) HN.out).mono ?_
        rintro e u ⟨rfl, hb⟩
        have HI2 := Aside0.mk (HI.out.step hb)
        clear hb hcell HI
        go_wp2
        go_ret2
        exact ⟨rfl, xs, HI2.out, fun h => absurd h H0.out⟩
    · obtain rfl : k = l.length := by omega
      have hE := HH.out
      have hL := HL.out
      rw [List.drop_length] at hE hL
      obtain ⟨rfl, rfl⟩ := Prod.mk.inj (Option.some.inj hE)
      have HL2 : Hid (xs = LL) := Lib.hid (by rw [← hL]; simp [linksL])
      clear hE HH hL HL
      go_wp2
      go_ret2
      exact ⟨rfl, xs, HI.out, fun _ => HL2.out⟩

def chain_Head.f (l : List ByteArray) : Option (ByteArray × Int) := if l.length ≤ 9223372036854775806 then eachF ⟨#[]⟩ l else none
def chain_Links.f (l : List ByteArray) : Option (List S40 × Int) :=
  if l.length ≤ 4294967296 then (eachF ⟨#[]⟩ l).bind fun t => if t.2 = 0 then some (linksL ⟨#[]⟩ l, 0) else some ([], t.2) else none
set_option maxHeartbeats 1000000 in
set_option maxRecDepth 100000 in
theorem chain_Head.calls (A0 : Option Addr) (c0 : Nat) (l0 : List ByteArray) (r1 : ByteArray) (r2 : Int) (w : World) (hT : Tabs w) (hr0 : Kd.C Kd.string w A0 l0.length l0) (hc0 : l0.length ≤ c0) (h : chain_Head.f l0 = some (r1, r2)) :
    Calls Tryd.prog 17 #[.slice A0 l0.length c0] w fun e w' => e = .returned (.tuple #[.string r1, .int .i64 r2]) ∧ Below w.heap.size w w' := by
  unfold chain_Head.f at h
  by_cases hm : l0.length ≤ 9223372036854775806
  · rw [if_pos hm] at h
    have HE := Lib.hid (each_head A0 c0 l0 r1 r2 w hT hr0 hm h)
    clear h hr0 hc0
    go_enter Tryd.func17, Tryd.ntmps17
    go_wp2_with (go_at_call 31; refine Pause'.out ?_)
    constructor
    refine HE.out.mono ?_
    rintro e u ⟨rfl, hb⟩
    go_wp2
    go_ret2
    exact ⟨rfl, hb⟩
  · rw [if_neg hm] at h
    cases h
set_option maxHeartbeats 1000000 in
set_option maxRecDepth 100000 in
theorem chain_Links.calls (A0 : Option Addr) (c0 : Nat) (l0 : List ByteArray) (r1 : List S40) (r2 : Int) (w : World) (hT : Tabs w) (hr0 : Kd.C Kd.string w A0 l0.length l0) (hc0 : l0.length ≤ c0) (h : chain_Links.f l0 = some (r1, r2)) :
    Calls Tryd.prog 19 #[.slice A0 l0.length c0] w fun e w' => ∃ v0_ : Value, e = .returned (.tuple #[v0_, .int .i64 r2]) ∧ Kd.R k40 40 w' w.heap.size (fun _ => True) v0_ r1 ∧ Below w.heap.size w w' := by
  unfold chain_Links.f at h
  by_cases hm : l0.length ≤ 4294967296
  · rw [if_pos hm] at h
    obtain ⟨⟨q1, q2⟩, hE, h2⟩ := Option.bind_eq_some_iff.mp h
    have hI : LI w (w.alloc (.cells #[.slice none 0 0] 32)) w.heap.size [] :=
      ⟨(Below.refl w.heap.size w).alloc (Nat.le_refl _) _, _, RowIs.new w 32 [.slice none 0 0], Kd.R_nil _ _ _ _ _⟩
    have HE := Lib.hid (each_links A0 c0 l0 q1 q2 w _ w.heap.size (Nat.le_refl _) hT (Kd.C_below hr0 ((Below.refl w.heap.size w).alloc (Nat.le_refl _) _)) hm hI hE (fun u xs hu => Kd.C_below hr0 hu.below))
    have H2 := Lib.hid h2
    clear h h2 hE hI hr0 hc0
    go_enter Tryd.func19, Tryd.ntmps19
    go_wp2_with (go_at_call 31; refine Pause'.out ?_)
    constructor
    refine HE.out.mono ?_
    rintro e u ⟨rfl, xs, hI, hx⟩
    have h2 := H2.out
    by_cases h0 : q2 = 0
    · subst h0
      rw [if_pos rfl] at h2
      obtain ⟨rfl, rfl⟩ := Prod.mk.inj (Option.some.inj h2)
      obtain rfl := hx rfl
      obtain ⟨hB, v, hR, hO⟩ := hI
      have hcl := hR.cell (i := 0) rfl
      have HO := Aside0.mk hO; have HB := Aside0.mk hB
      clear h2 hx hR hO hB HE H2
      go_wp2
      refine bodyPost_ret (v := .tuple #[v, .int .i64 0]) (by simp [results, Tryd.results19, go_sem]) rfl ⟨v, rfl, HO.out, HB.out⟩
    · rw [if_neg h0] at h2
      obtain ⟨rfl, rfl⟩ := Prod.mk.inj (Option.some.inj h2)
      have hb0 : (q2 != 0) = true := bne_iff_ne.mpr h0
      have HB := Aside0.mk hI.below
      clear h2 hx hI HE H2 h0
      go_wp2
      refine bodyPost_ret (v := .tuple #[.slice none 0 0, .int .i64 q2]) (by simp [results, Tryd.results19, go_sem]) rfl ⟨.slice none 0 0, rfl, Kd.R_nil _ _ _ _ _, HB.out⟩
  · rw [if_neg hm] at h
    cases h
end Go.Proofs.YtnigomohlgcojaaDoor
