/- tree.root, tree.Climb: the inputs from a leaf to the root; in the form that the print takes. -/
import Derived.Test.YtlcmpmodfkmfnaaDoorNum
import Derived.Test.YtlcmpmodfkmfnaaDoorCrown
import Derived.Test.YtlcmpmodfkmfnaaDoorSteps
set_option linter.unusedVariables false
set_option linter.unusedSimpArgs false
namespace Go.Proofs.YtlcmpmodfkmfnaaDoor
open Go.RowKit Go.Proofs.YtlcmpmodfkmfnaaDoorW.PrintWords

def rootB (n : Nat) (c : ByteArray) : ByteArray := ((⟨#[2]⟩ : ByteArray) ++ numB n) ++ c
theorem numB_size (v : Nat) : (numB v).size ≤ 9 := by
  have h := nb_le v
  have : (numB v).size = (numL v).length := by simp [numB, strOfNums, ByteArray.size]
  rw [this]
  simp [numL, beL_length]
  omega
set_option maxHeartbeats 1000000 in
set_option maxRecDepth 100000 in
theorem root_any (n : Nat) (hn : n ≤ 4096) (c : ByteArray) (hs : c.size ≤ 562949953421311) (w : World) :
    Calls Tryd.prog 36 #[.int .i64 (n : Int), .string c] w fun e w' => e = .returned (.string (rootB n c)) ∧ Below w.heap.size w w' := by
  have hB := Below.refl w.heap.size w
  have h9 := numB_size n
  have h1 : 1 + (numB n).size ≤ 9223372036854775807 := by omega
  have h2 : ((⟨#[2]⟩ : ByteArray) ++ numB n).size + c.size ≤ 9223372036854775807 := by
    rw [ByteArray.size_append]
    show 1 + _ + c.size ≤ _
    omega
  have c1 := eq_true h1
  have c2 : (9223372036854775807 < 1 + (numB n).size) = False := eq_false (Nat.not_lt.2 h1)
  have c3 := eq_true h2
  have c4 : (9223372036854775807 < ((⟨#[2]⟩ : ByteArray) ++ numB n).size + c.size) = False := eq_false (Nat.not_lt.2 h2)
  have c5 : (9223372036854775807 < 1 + (numB n).size + c.size) = False := eq_false (by omega)
  have HN := Lib.hid (num_any n (by omega))
  unfold rootB
  clear hs h1 h2 h9
  generalize numB n = nn at *
  go_enter Tryd.func36, Tryd.ntmps36
  go_wp2_with (go_at_call 60; refine Pause'.out ?_)
  constructor
  refine (HN.out _).mono ?_
  rintro e u ⟨rfl, hb⟩
  replace hB := hB.trans hb
  clear hb HN
  go_wp2
  go_ret
  exact ⟨rfl, hB⟩

theorem way_any (n i : Int) (w : World) :
    Calls Tryd.prog 33 #[.int .i64 n, .int .i64 i] w fun e w' => e = .returned (.func (.func 57) #[] #[.pointer (some ⟨w.heap.size, 0, none⟩), .pointer (some ⟨w.heap.size + 1, 0, none⟩)]) ∧ w' = (w.alloc (.cells #[.int .i64 n] 3)).alloc (.cells #[.int .i64 i] 3) :=
  callsIn_wide.1 (way_in Fence.wide 0 trivial rfl n i w)
theorem Kd.own_step {w w1 : World} {base size k : Nat} {e : TypeId} {v : Value} {xs : List Value} (h : w.ownsRow base e size v k xs) (hb : Below w.heap.size w w1) : w1.ownsRow base e size v k xs := by
  refine ⟨h.1, h.2.imp id ?_⟩
  rintro ⟨g, cap, cur, h1, h2, h3, h4⟩
  exact ⟨g, cap, cur, h1, h2, (hb.block g (Array.getElem?_eq_some_iff.1 h3).1).trans h3, h4⟩
theorem own_new (w : World) (base : Nat) (e : TypeId) (cs : List Value) (hb : base ≤ w.heap.size) (hm : cs.length ≤ maxLen) : (w.alloc (.cells cs.toArray e)).ownsRow base e 1 (.slice (some ⟨w.heap.size, 0, none⟩) cs.length cs.length) cs.length cs :=
  ⟨by omega, .inr ⟨w.heap.size, cs.length, cs.toArray, rfl, hb, World.alloc_heap_new _ _, Nat.le_refl _, hm, by simp, by simp⟩⟩
theorem side_cells {w : World} {base n c k gs : Nat} {xs : List SideT} {x : SideT} (h : w.ownsRow base 64 3 (.slice (some ⟨gs, 0, none⟩) n c) n (xs.flatMap sideE)) (hx : xs[k]? = some x) :
    w.cell? ⟨gs, k * 3, none⟩ = some (.bool x.1) ∧ w.cell? ⟨gs, k * 3 + 1, none⟩ = some (.int .i64 (x.2.1 : Int)) ∧ w.cell? ⟨gs, k * 3 + 2, none⟩ = some (.int .i64 (x.2.2 : Int)) := by
  obtain ⟨g, cap, e, _, _, _, hH⟩ := holds_of_row h (by simp)
  injection e with e1 _ _
  injection e1 with e1
  injection e1 with e1
  subst e1
  have hk := (List.getElem?_eq_some_iff.1 hx).1
  have hg : ∀ j, j < 3 → w.cell? ⟨gs, k * 3 + j, none⟩ = some ((sideE x).getD j default) := fun j hj => by
    have h1 := (hH (k * 3 + j) (by rw [List.size_toArray, flat_len]; omega)).1
    have h2 := flat_get xs (k * 3 + j) (by omega)
    rw [show (k * 3 + j) / 3 = k by omega, show (k * 3 + j) % 3 = j by omega] at h2
    rw [Nat.zero_add] at h1
    rw [h1, id]
    simp only [List.getD_eq_getElem?_getD] at h2 ⊢
    rw [hx] at h2
    simp only [List.getElem!_toArray, List.getElem!_eq_getElem?_getD]
    rw [h2]
    rfl
  exact ⟨hg 0 (by omega), hg 1 (by omega), hg 2 (by omega)⟩
theorem strs_snoc' (a : List ByteArray) (b : ByteArray) : (a ++ [b]).map Value.string = a.map Value.string ++ [.string b] := by simp
/-- The inputs, when k rounds are over. -/
def outK (N i : Nat) (s : ByteArray) (path : List ByteArray) (k : Nat) : List ByteArray := TM.climbF sumB ((TM.rights 0 N i).take k) (path.take k) [TM.leafB s]

theorem rights_get {N i k : Nat} {x : SideT} (h : (TM.wayL 0 N i).reverse[k]? = some x) : (TM.rights 0 N i)[k]? = some x.1 := by
  unfold TM.rights
  rw [← List.map_reverse, List.getElem?_map, h]
  rfl
theorem take_snoc {α : Type} {l : List α} {k : Nat} {x : α} (h : l[k]? = some x) : l.take (k + 1) = l.take k ++ [x] := by
  obtain ⟨hk, he⟩ := List.getElem?_eq_some_iff.1 h
  rw [List.take_succ_eq_append_getElem hk, he]
theorem outK_succ {N i : Nat} {s : ByteArray} {path : List ByteArray} {k : Nat} {b : Bool} {p : ByteArray} (h1 : (TM.rights 0 N i)[k]? = some b) (h2 : path[k]? = some p) :
    outK N i s path (k + 1) = outK N i s path k ++ [TM.stepB b (sumB (TM.lastB (outK N i s path k))) p] := by
  unfold outK
  have hk1 := (List.getElem?_eq_some_iff.1 h1).1; have hk2 := (List.getElem?_eq_some_iff.1 h2).1
  rw [take_snoc h1, take_snoc h2, TM.climbF_snoc sumB _ _ _ _ _ (by rw [List.length_take, List.length_take]; omega)]
theorem outK_length {N i : Nat} {s : ByteArray} {path : List ByteArray} (hp : path.length = (TM.wayL 0 N i).length) {k : Nat} (hk : k ≤ path.length) : (outK N i s path k).length = k + 1 := by
  unfold outK
  rw [TM.climbF_length sumB _ _ _ (by rw [List.length_take, List.length_take, TM.rights_length]; omega), List.length_take, TM.rights_length]
  simp
  omega
theorem outK_all {N i : Nat} {s : ByteArray} {path : List ByteArray} (hp : path.length = (TM.wayL 0 N i).length) : outK N i s path path.length = TM.climbF sumB (TM.rights 0 N i) path [TM.leafB s] := by
  unfold outK
  rw [List.take_of_length_le (by rw [TM.rights_length]; omega), List.take_of_length_le (Nat.le_refl _)]
theorem last_get {l : List ByteArray} {k : Nat} (h : l.length = k + 1) : l[k]? = some (TM.lastB l) := by
  have hne : l ≠ [] := by rintro rfl; simp at h
  rw [TM.snoc_of hne]
  have hl : l.dropLast.length = k := by rw [List.length_dropLast]; omega
  rw [List.getElem?_append_right (by omega), hl]
  simp [TM.lastB_snoc]
theorem outK_size {N i : Nat} {s : ByteArray} {path : List ByteArray} (hs : s.size ≤ 562949953421311) (h32 : ∀ p ∈ path, p.size = 32) (hp : path.length = (TM.wayL 0 N i).length) : ∀ k, k ≤ path.length → ∀ x ∈ outK N i s path k, x.size ≤ 562949953421312
  | 0, _, x, hx => by
    have : outK N i s path 0 = [TM.leafB s] := by simp [outK, TM.climbF]
    rw [this] at hx
    obtain rfl := List.mem_singleton.1 hx
    unfold TM.leafB
    rw [ByteArray.size_append]
    show 1 + s.size ≤ _
    omega
  | k + 1, hk, x, hx => by
    have h1 : (TM.rights 0 N i)[k]? = some _ := List.getElem?_eq_getElem (by rw [TM.rights_length]; omega)
    have h2 : path[k]? = some _ := List.getElem?_eq_getElem (by omega)
    have hpk : (path[k]'(by omega)).size = 32 := h32 _ (List.getElem_mem _)
    rw [outK_succ h1 h2, List.mem_append] at hx
    rcases hx with hx | hx
    · exact outK_size hs h32 hp k (by omega) x hx
    · obtain rfl := List.mem_singleton.1 hx
      unfold TM.stepB TM.nodeB
      split <;> (rw [ByteArray.size_append, ByteArray.size_append, sumB_size, hpk]; decide)
theorem own_cell {w : World} {base n c g k : Nat} {e : TypeId} {xs : List Value} {x : Value} (h : w.ownsRow base e 1 (.slice (some ⟨g, 0, none⟩) n c) n xs) (hx : xs[k]? = some x) : w.cell? ⟨g, k, none⟩ = some x := by
  obtain ⟨g', cap, e, _, _, _, hH⟩ := holds_of_row h (by simp)
  injection e with e1 _ _
  injection e1 with e1
  injection e1 with e1
  subst e1
  have hk := (List.getElem?_eq_some_iff.1 hx).1
  have h1 := (hH k (by simpa using hk)).1
  rw [Nat.zero_add] at h1
  rw [h1, id]
  simp only [List.getElem!_toArray, List.getElem!_eq_getElem?_getD, hx]
  rfl
/-- Two slices of one's own of different types: one abides the other's growth. -/
theorem own_other {w w1 : World} {b1 b2 s1 s2 n1 n2 : Nat} {e1 e2 : TypeId} {v1 v2 : Value} {x1 x2 : List Value} (h : w.ownsRow b1 e1 s1 v1 n1 x1) (h' : w.ownsRow b2 e2 s2 v2 n2 x2) (hne : e1 ≠ e2) (hg : w.grownBy w1 v2.ownBlock) : w1.ownsRow b1 e1 s1 v1 n1 x1 := by
  refine h.kept hg ?_
  rcases h.2 with ⟨rfl, _⟩ | ⟨g1, _, _, rfl, _, hg1, _⟩
  · exact .inl rfl
  · refine .inr fun e => ?_
    rcases h'.2 with ⟨rfl, _⟩ | ⟨g2, _, _, rfl, _, hg2, _⟩
    · simp [Value.ownBlock] at e
    · have : g1 = g2 := by simpa [Value.ownBlock] using e
      rw [this, hg2] at hg1
      injection hg1 with hg1
      injection hg1 with _ hg1 _
      exact hne hg1.symm

set_option maxHeartbeats 4000000 in
set_option maxRecDepth 100000 in
theorem climb_any (N i : Nat) (s : ByteArray) (A0 : Option Addr) (c0 : Nat) (path : List ByteArray) (w : World) (hT : Tabs w) (hN : N ≤ 4096) (hi : i < N) (hs : s.size ≤ 562949953421311) (hr : Kd.C Kd.string w A0 path.length path) (hc : path.length ≤ c0)
    (hp : path.length = (TM.wayL 0 N i).length) (h32 : ∀ p ∈ path, p.size = 32) :
    Calls Tryd.prog 25 #[.int .i64 (N : Int), .int .i64 (i : Int), .string s, .slice A0 path.length c0] w fun e w' => ∃ v, e = .returned (.tuple #[v, .int .i64 0]) ∧
      w'.ownsRow w.heap.size 9 1 v (path.length + 2) ((TM.climbF sumB (TM.rights 0 N i) path [TM.leafB s] ++ [rootB N (sumB (TM.lastB (TM.climbF sumB (TM.rights 0 N i) path [TM.leafB s])))]).map .string) ∧ Below w.heap.size w w' := by
  have h12 := TM.way_le 12 N 0 i hN
  have hd1 : decide ((N : Int) < 1) = false := by simp; omega
  have hd2 : decide ((4096 : Int) < (N : Int)) = false := by simp; omega
  have hd3 : decide ((i : Int) < 0) = false := by simp
  have hd4 : decide ((N : Int) ≤ (i : Int)) = false := by simp; omega
  have hd5 : decide (N ≤ i) = false := by simp; omega
  have HT := Lib.hid hT; have HR := Lib.hid hr; have HP := Lib.hid hp; have H32 := Lib.hid h32; have HS := Lib.hid hs
  clear hT hr h32 hp hs
  go_enter Tryd.func25, Tryd.ntmps25
  go_wp2_with (go_at_call 33; refine Pause'.out ?_)
  constructor
  refine (way_any _ _ _).mono ?_
  rintro e u ⟨rfl, rfl⟩
  go_wp2_with (go_at_call 48; refine Pause'.out ?_)
  constructor
  have bN := (Boxed.new w 3 (.int .i64 (N : Int))).alloc (.cells #[.int .i64 (i : Int)] 3)
  have bI := Boxed.new (w.alloc (.cells #[.int .i64 (N : Int)] 3)) 3 (.int .i64 (i : Int))
  have hB0 : Below w.heap.size w ((w.alloc (.cells #[.int .i64 (N : Int)] 3)).alloc (.cells #[.int .i64 (i : Int)] 3)) := ((Below.refl _ w).alloc (Nat.le_refl _) _).alloc (by simp) _
  simp only [World.size_alloc] at bI
  have hsz : ((w.alloc (.cells #[.int .i64 (N : Int)] 3)).alloc (.cells #[.int .i64 (i : Int)] 3)).heap.size = w.heap.size + 2 := by simp
  generalize (w.alloc (.cells #[.int .i64 (N : Int)] 3)).alloc (.cells #[.int .i64 (i : Int)] 3) = W0 at *
  refine (collect_any N hN i hi w.heap.size (w.heap.size + 1) W0 (by omega) bI bN.cell).mono ?_
  rintro e u ⟨v, rfl, h1, h2⟩
  have hB := hB0.trans (h2.mono (by omega))
  have HA := Lib.hid (And.intro h1 hB)
  obtain ⟨vA, vc, hv⟩ : ∃ A c, v = .slice A (TM.wayL 0 N i).length c := by
    rcases h1.2 with ⟨rfl, h0⟩ | ⟨g, cap, cur, rfl, _⟩
    · exact ⟨none, 0, by rw [h0]⟩
    · exact ⟨_, _, rfl⟩
  subst hv
  have hW0 : w.heap.size ≤ W0.heap.size := by omega
  clear h1 h2 hB bN bI hB0 hsz
  have hbe : ((path.length : Int) != ((TM.wayL 0 N i).length : Int)) = false := by rw [HP.out]; simp
  have hbe2 : (path.length == (TM.wayL 0 N i).length) = true := by rw [HP.out]; simp
  go_wp2_with (go_at_call 50; refine Pause'.out ?_)
  constructor
  have HCF := Lib.hid (contains_any A0 c0 path false u (Kd.C_below HR.out HA.out.2) (by rw [HP.out]; omega) (by
    symm
    rw [List.any_eq_false]
    intro p hp
    simpa using H32.out p hp))
  refine HCF.out.mono ?_
  rintro e u1 ⟨rfl, hb1⟩
  have HA1 := Lib.hid (And.intro (Kd.own_step HA.out.1 hb1) (HA.out.2.trans (hb1.mono HA.out.2.size)))
  clear hb1 HCF HA
  go_wp2_with (go_at_call 51; refine Pause'.out ?_)
  constructor
  refine (revSides_any _ _ (TM.wayL 0 N i) _ HA1.out.1 (by omega)).mono ?_
  rintro e u2 ⟨rfl, h1, hg⟩
  have HA2 := Lib.hid (And.intro h1 (HA1.out.2.grown hg HA1.out.2.size (fun k e => Nat.le_trans hW0 (HA1.out.1.lt k e).1)))
  clear h1 hg HA1
  go_wp2_with (go_at_call 40; refine Pause'.out ?_)
  constructor
  refine (leaf_any s HS.out _).mono ?_
  rintro e u3 ⟨rfl, hb3⟩
  have HA3 := Lib.hid (And.intro (Kd.own_step HA2.out.1 hb3) (HA2.out.2.trans (hb3.mono HA2.out.2.size)))
  clear hb3 HA2
  have hz3 := HA3.out.2.size
  obtain ⟨lf, hlf⟩ : ∃ lf, lf = TM.leafB s := ⟨_, rfl⟩
  rw [← hlf]
  have HLF := Lib.hid hlf
  clear hlf
  go_wp2
  have hst := Lib.hid (Kd.own_step HA3.out.1 ((Below.refl u3.heap.size u3).alloc (Nat.le_refl _) (.cells #[.string lf] 9)))
  have hbw := HA3.out.2.alloc hz3 (.cells #[.string lf] 9)
  have hnw := Lib.hid (own_new u3 w.heap.size 9 [.string lf] hz3 (by show 1 ≤ maxLen; decide))
  clear HA3
  go_loopw [12, 52] (fun x y wr => ∃ k : Nat, y = .int .i64 (k : Int) ∧ k ≤ (TM.wayL 0 N i).length ∧ Hid (wr.ownsRow w.heap.size 9 1 x (k + 1) ((outK N i s path k).map .string)) ∧ Hid (wr.ownsRow W0.heap.size 64 3 (.slice vA (TM.wayL 0 N i).length vc) (TM.wayL 0 N i).length ((TM.wayL 0 N i).reverse.flatMap sideE)) ∧ Below w.heap.size w wr) (fun _ y _ => (TM.wayL 0 N i).length + 1 - (intOf y).toNat)
  case atStart =>
    refine ⟨0, rfl, by omega, ?_, hst, hbw⟩
    have h0 := hnw.out
    rw [HLF.out] at h0 ⊢
    exact Lib.hid h0
  case round =>
    clear hst hbw hnw
    obtain ⟨k, rfl, hk, HO, HST, hB⟩ := hrel
    by_cases hlt : k < (TM.wayL 0 N i).length
    · have hlt1 : decide ((k : Int) < ((TM.wayL 0 N i).length : Int)) = true := by simp; omega
      have hlt2 : decide (k < (TM.wayL 0 N i).length) = true := by simp; omega
      obtain ⟨g, cap, rfl⟩ := ownsRow_succ HO.out
      obtain ⟨gs, rfl⟩ : ∃ gs, vA = some ⟨gs, 0, none⟩ := by
        rcases HST.out.2 with ⟨_, h0⟩ | ⟨gs, _, _, e, _⟩
        · omega
        · injection e with e1
          exact ⟨gs, e1⟩
      obtain ⟨⟨bb, lo, hi'⟩, hX⟩ : ∃ x, (TM.wayL 0 N i).reverse[k]? = some x := ⟨_, List.getElem?_eq_getElem (by simpa using hlt)⟩
      obtain ⟨hc0, hc1, hc2⟩ := side_cells HST.out (by simpa using hX)
      dsimp only at hc0 hc1 hc2
      obtain ⟨ot, hot⟩ : ∃ ot, ot = TM.lastB (outK N i s path k) := ⟨_, rfl⟩
      have hco : wr.cell? ⟨g, k, none⟩ = some (.string ot) := own_cell HO.out (by rw [List.getElem?_map, last_get (outK_length HP.out (by rw [HP.out]; omega)), hot]; rfl)
      have HX := Lib.hid (And.intro hX hot)
      clear hX hot
      have hos : Hid (ot.size ≤ 562949953421312) := Lib.hid (by
        rw [HX.out.2]
        exact outK_size HS.out H32.out HP.out k (by rw [HP.out]; omega) _ (List.mem_of_getElem? (last_get (outK_length HP.out (by rw [HP.out]; omega)))))
      have H32' := Lib.hid (show ∀ k, k < path.length → (path.getD k ByteArray.empty).size = 32 from fun k hk => by
        rw [List.getD_eq_getElem?_getD, List.getElem?_eq_getElem hk]
        exact H32.out _ (List.getElem_mem _))
      cases bb
      · have hco2 : (wr.alloc (.cells #[.bool false, .int .i64 (lo : Int), .int .i64 (hi' : Int)] 64)).cell? ⟨g, k, none⟩ = some (.string ot) := cell_alloc_l' _ hco
        have hnb := (RowIs.new wr 64 [.bool false, .int .i64 (lo : Int), .int .i64 (hi' : Int)]).cell (i := 0) rfl
        have hBW := hB.alloc hB.size (.cells #[.bool false, .int .i64 (lo : Int), .int .i64 (hi' : Int)] 64)
        have hBA := (Below.refl wr.heap.size wr).alloc (Nat.le_refl _) (.cells #[.bool false, .int .i64 (lo : Int), .int .i64 (hi' : Int)] 64)
        have HW := Lib.hid (And.intro hnb (And.intro hBW hBA))
        clear hnb hBW hBA
        go_wp2_with (go_at_call 26; refine Pause'.out ?_)
        constructor
        obtain ⟨hnb, hBW, hBA⟩ := HW.out
        refine (sum_any ot hos.out _ (HT.out.below hBW HT.out.size)).mono ?_
        rintro e u4 ⟨rfl, hb4⟩
        have hrt := (hb4.cell (p := ⟨wr.heap.size, 0, none⟩) (by simp)).trans hnb
        have hB4 := Lib.hid (hBW.trans (hb4.mono hBW.size))
        have hB4r := Lib.hid (hBA.trans (hb4.mono hBA.size))
        obtain ⟨ap, hap, hpc⟩ := Kd.at_string (Kd.C_below HR.out hB4.out) k (by omega) (by rw [HP.out]; omega)
        subst hap
        have hpc' : u4.cell? (ap.add k) = some (.string (path.getD k ByteArray.empty)) := hpc
        have hlp : decide (k < path.length) = true := by rw [HP.out]; simp; omega
        have hlp2 : (k : Int) < (path.length : Int) := by rw [HP.out]; omega
        obtain ⟨pk, hpk⟩ : ∃ pk, pk = path.getD k ByteArray.empty := ⟨_, rfl⟩
        rw [← hpk] at hpc'
        have HPK := Lib.hid hpk
        have hp32 := Lib.hid (H32'.out k (by rw [HP.out]; exact hlt))
        rw [← hpk] at hp32
        have HN := Lib.hid (node_any pk (sumB ot) (by rw [sumB_size, hp32.out]; decide))
        obtain ⟨own, hown0⟩ : ∃ own, own = sumB ot := ⟨_, rfl⟩
        rw [← hown0] at HN ⊢
        have HOWN := Lib.hid hown0
        obtain ⟨nd, hnd⟩ : ∃ nd, nd = TM.nodeB pk own := ⟨_, rfl⟩
        rw [← hnd] at HN
        have HND := Lib.hid hnd
        clear hpk hpc hown0 hnd hb4 hnb hBW hBA HW hco hco2 hc0 hc1 hc2
        go_wp2_with (go_at_call 42; refine Pause'.out ?_)
        constructor
        refine (HN.out _).mono ?_
        rintro e u5 ⟨rfl, hb5⟩
        have hB5 := hB4.out.trans (hb5.mono hB4.out.size)
        have hB5r := hB4r.out.trans (hb5.mono hB4r.out.size)
        have HO5 := Lib.hid (Kd.own_step HO.out hB5r)
        have HS5 := Lib.hid (Kd.own_step HST.out hB5r)
        have hz5 := hB5.size
        have HB5 := Lib.hid hB5
        clear hb5 hB5 hB5r hrt hpc' HN
        obtain ⟨i0, hi0, hz0, hsz0, hby0⟩ := info_parts infoStr
        go_wp2_with (at_builtin; refine wpList_append_own _ rfl _ _ 22 rfl w.heap.size 9 i0 (.string ⟨#[]⟩) 1 16 Tryd.underlying22 hi0 hz0 hsz0 hby0 rfl (by decide) _ _ _ rfl (HO5.out.alloc _) ⟨u5.heap.size, 0, none⟩ 1 1 [.string nd] rfl rfl (cells_new _ _ _) (by simp [Value.oneCell']) (by unfold maxLen; omega) (by omega) (by simp; omega) ?_; intro v' w1 hown' hgrow _; obtain ⟨g', cap', rfl⟩ := ownsRow_succ hown'; have HX2 := Lib.hid (And.intro hown' hgrow); clear hown' hgrow)
        obtain ⟨hown', hgrow⟩ := HX2.out
        go_roundw
        case rel =>
          refine ⟨k + 1, by go_num, by omega, ?_, ?_, ?_⟩
          · have h2 : path[k]? = some pk := by
              rw [HPK.out, List.getD_eq_getElem?_getD, List.getElem?_eq_getElem (by rw [HP.out]; exact hlt)]
              rfl
            rw [outK_succ (rights_get HX.out.1) h2, strs_snoc', ← HX.out.2, ← HOWN.out]
            have := hown'
            rw [HND.out] at this
            exact Lib.hid this
          · exact Lib.hid (own_other (HS5.out.alloc _) (HO5.out.alloc _) (by decide) hgrow)
          · exact (HB5.out.alloc hz5 _).grown hgrow (by simp; omega) (fun k e => (HO5.out.lt k e).1)
        case measure => simp [intOf]; omega
      · have hco2 : (wr.alloc (.cells #[.bool true, .int .i64 (lo : Int), .int .i64 (hi' : Int)] 64)).cell? ⟨g, k, none⟩ = some (.string ot) := cell_alloc_l' _ hco
        have hnb := (RowIs.new wr 64 [.bool true, .int .i64 (lo : Int), .int .i64 (hi' : Int)]).cell (i := 0) rfl
        have hBW := hB.alloc hB.size (.cells #[.bool true, .int .i64 (lo : Int), .int .i64 (hi' : Int)] 64)
        have hBA := (Below.refl wr.heap.size wr).alloc (Nat.le_refl _) (.cells #[.bool true, .int .i64 (lo : Int), .int .i64 (hi' : Int)] 64)
        have HW := Lib.hid (And.intro hnb (And.intro hBW hBA))
        clear hnb hBW hBA
        go_wp2_with (go_at_call 26; refine Pause'.out ?_)
        constructor
        obtain ⟨hnb, hBW, hBA⟩ := HW.out
        refine (sum_any ot hos.out _ (HT.out.below hBW HT.out.size)).mono ?_
        rintro e u4 ⟨rfl, hb4⟩
        have hrt := (hb4.cell (p := ⟨wr.heap.size, 0, none⟩) (by simp)).trans hnb
        have hB4 := Lib.hid (hBW.trans (hb4.mono hBW.size))
        have hB4r := Lib.hid (hBA.trans (hb4.mono hBA.size))
        obtain ⟨ap, hap, hpc⟩ := Kd.at_string (Kd.C_below HR.out hB4.out) k (by omega) (by rw [HP.out]; omega)
        subst hap
        have hpc' : u4.cell? (ap.add k) = some (.string (path.getD k ByteArray.empty)) := hpc
        have hlp : decide (k < path.length) = true := by rw [HP.out]; simp; omega
        have hlp2 : (k : Int) < (path.length : Int) := by rw [HP.out]; omega
        obtain ⟨pk, hpk⟩ : ∃ pk, pk = path.getD k ByteArray.empty := ⟨_, rfl⟩
        rw [← hpk] at hpc'
        have HPK := Lib.hid hpk
        have hp32 := Lib.hid (H32'.out k (by rw [HP.out]; exact hlt))
        rw [← hpk] at hp32
        have HN := Lib.hid (node_any (sumB ot) pk (by rw [sumB_size, hp32.out]; decide))
        obtain ⟨own, hown0⟩ : ∃ own, own = sumB ot := ⟨_, rfl⟩
        rw [← hown0] at HN ⊢
        have HOWN := Lib.hid hown0
        obtain ⟨nd, hnd⟩ : ∃ nd, nd = TM.nodeB own pk := ⟨_, rfl⟩
        rw [← hnd] at HN
        have HND := Lib.hid hnd
        clear hpk hpc hown0 hnd hb4 hnb hBW hBA HW hco hco2 hc0 hc1 hc2
        go_wp2_with (go_at_call 42; refine Pause'.out ?_)
        constructor
        refine (HN.out _).mono ?_
        rintro e u5 ⟨rfl, hb5⟩
        have hB5 := hB4.out.trans (hb5.mono hB4.out.size)
        have hB5r := hB4r.out.trans (hb5.mono hB4r.out.size)
        have HO5 := Lib.hid (Kd.own_step HO.out hB5r)
        have HS5 := Lib.hid (Kd.own_step HST.out hB5r)
        have hz5 := hB5.size
        have HB5 := Lib.hid hB5
        clear hb5 hB5 hB5r hrt hpc' HN
        obtain ⟨i0, hi0, hz0, hsz0, hby0⟩ := info_parts infoStr
        go_wp2_with (at_builtin; refine wpList_append_own _ rfl _ _ 22 rfl w.heap.size 9 i0 (.string ⟨#[]⟩) 1 16 Tryd.underlying22 hi0 hz0 hsz0 hby0 rfl (by decide) _ _ _ rfl (HO5.out.alloc _) ⟨u5.heap.size, 0, none⟩ 1 1 [.string nd] rfl rfl (cells_new _ _ _) (by simp [Value.oneCell']) (by unfold maxLen; omega) (by omega) (by simp; omega) ?_; intro v' w1 hown' hgrow _; obtain ⟨g', cap', rfl⟩ := ownsRow_succ hown'; have HX2 := Lib.hid (And.intro hown' hgrow); clear hown' hgrow)
        obtain ⟨hown', hgrow⟩ := HX2.out
        go_roundw
        case rel =>
          refine ⟨k + 1, by go_num, by omega, ?_, ?_, ?_⟩
          · have h2 : path[k]? = some pk := by
              rw [HPK.out, List.getD_eq_getElem?_getD, List.getElem?_eq_getElem (by rw [HP.out]; exact hlt)]
              rfl
            rw [outK_succ (rights_get HX.out.1) h2, strs_snoc', ← HX.out.2, ← HOWN.out]
            have := hown'
            rw [HND.out] at this
            exact Lib.hid this
          · exact Lib.hid (own_other (HS5.out.alloc _) (HO5.out.alloc _) (by decide) hgrow)
          · exact (HB5.out.alloc hz5 _).grown hgrow (by simp; omega) (fun k e => (HO5.out.lt k e).1)
        case measure => simp [intOf]; omega
    · obtain rfl : k = (TM.wayL 0 N i).length := by omega
      have hlt1 : decide (((TM.wayL 0 N i).length : Int) < ((TM.wayL 0 N i).length : Int)) = false := by simp
      have hlt2 : decide ((TM.wayL 0 N i).length < (TM.wayL 0 N i).length) = false := by simp
      obtain ⟨g, cap, rfl⟩ := ownsRow_succ HO.out
      have HK := Lib.hid (show outK N i s path (TM.wayL 0 N i).length = TM.climbF sumB (TM.rights 0 N i) path [TM.leafB s] by rw [← HP.out]; exact outK_all HP.out)
      obtain ⟨ot, hot⟩ : ∃ ot, ot = TM.lastB (TM.climbF sumB (TM.rights 0 N i) path [TM.leafB s]) := ⟨_, rfl⟩
      have hco : wr.cell? ⟨g, (TM.wayL 0 N i).length, none⟩ = some (.string ot) := own_cell HO.out (by rw [List.getElem?_map, last_get (outK_length HP.out (by rw [HP.out]; omega)), HK.out, hot]; rfl)
      have hos := Lib.hid (show ot.size ≤ 562949953421312 by
        rw [hot, ← HK.out]
        exact outK_size HS.out H32.out HP.out _ (by rw [HP.out]; omega) _ (List.mem_of_getElem? (last_get (outK_length HP.out (by rw [HP.out]; omega)))))
      have HOT := Lib.hid hot
      have HB := Lib.hid hB
      clear hot hB hk
      generalize hnn : (TM.wayL 0 N i).length = nn at *
      go_wp2_with (go_at_call 26; refine Pause'.out ?_)
      constructor
      refine (sum_any ot hos.out _ (HT.out.below HB.out HT.out.size)).mono ?_
      rintro e u4 ⟨rfl, hb4⟩
      have HB4 := Lib.hid (HB.out.trans (hb4.mono HB.out.size))
      have HO4 := Lib.hid (Kd.own_step HO.out hb4)
      obtain ⟨cr, hcr⟩ : ∃ cr, cr = sumB ot := ⟨_, rfl⟩
      have HRt := Lib.hid (root_any N hN cr (by rw [hcr, sumB_size]; decide))
      rw [← hcr]
      have HCR := Lib.hid hcr
      obtain ⟨rb, hrb⟩ : ∃ rb, rb = rootB N cr := ⟨_, rfl⟩
      rw [← hrb] at HRt
      have HRB := Lib.hid hrb
      clear hb4 hcr hrb hco HB HO hlt hlt1 hlt2 hnn
      go_wp2_with (go_at_call 36; refine Pause'.out ?_)
      constructor
      refine (HRt.out _).mono ?_
      rintro e u5 ⟨rfl, hb5⟩
      have HB5 := Lib.hid (HB4.out.trans (hb5.mono HB4.out.size))
      have HO5 := Lib.hid (Kd.own_step HO4.out hb5)
      have hz5 := HB5.out.size
      clear hb5 HB4 HO4 HRt
      obtain ⟨i0, hi0, hz0, hsz0, hby0⟩ := info_parts infoStr
      go_wp2_with (at_builtin; refine wpList_append_own _ rfl _ _ 22 rfl w.heap.size 9 i0 (.string ⟨#[]⟩) 1 16 Tryd.underlying22 hi0 hz0 hsz0 hby0 rfl (by decide) _ _ _ rfl (HO5.out.alloc _) ⟨u5.heap.size, 0, none⟩ 1 1 [.string rb] rfl rfl (cells_new _ _ _) (by simp [Value.oneCell']) (by unfold maxLen; omega) (by omega) (by simp; omega) ?_; intro v' w1 hown' hgrow _; obtain ⟨g', cap', rfl⟩ := ownsRow_succ hown'; have HX2 := Lib.hid (And.intro hown' hgrow); clear hown' hgrow)
      obtain ⟨hown', hgrow⟩ := HX2.out
      refine bodyPost_ret (v := .tuple #[.slice (some ⟨g', 0, none⟩) (nn + 1 + 1) cap', .int .i64 0]) (by simp [results, Tryd.results25, go_sem]) rfl ⟨_, rfl, ?_, (HB5.out.alloc hz5 _).grown hgrow (by simp; omega) (fun k e => (HO5.out.lt k e).1)⟩
      rw [HK.out, ← strs_snoc', HRB.out, HCR.out, HOT.out] at hown'
      rw [HP.out]
      exact hown'

/-- Climb, as the print takes it. -/
def tree_Climb.f (n i : Int) (s : ByteArray) (path : List ByteArray) : Option (List ByteArray × Int) :=
  if n < 1 ∨ 4096 < n ∨ i < 0 ∨ n ≤ i then some ([], 1)
  else if path.length ≠ (TM.wayL 0 n.toNat i.toNat).length ∨ ∃ p ∈ path, p.size ≠ 32 then some ([], 14)
  else if s.size ≤ 562949953421311 then some (TM.climbF sumB (TM.rights 0 n.toNat i.toNat) path [TM.leafB s] ++ [rootB n.toNat (sumB (TM.lastB (TM.climbF sumB (TM.rights 0 n.toNat i.toNat) path [TM.leafB s])))], 0)
  else none
set_option maxHeartbeats 1000000 in
set_option maxRecDepth 100000 in
theorem climb_arg1 (n i : Int) (s : ByteArray) (A0 : Option Addr) (c0 : Nat) (path : List ByteArray) (w : World) (h : n < 1) :
    Calls Tryd.prog 25 #[.int .i64 n, .int .i64 i, .string s, .slice A0 path.length c0] w fun e w' => e = .returned (.tuple #[.slice none 0 0, .int .i64 1]) ∧ Below w.heap.size w w' := by
  have hB := Lib.hid (Below.refl w.heap.size w)
  have d7663 : decide (n < 1) = true := by simp; omega
  go_enter Tryd.func25, Tryd.ntmps25
  go_wp2
  refine bodyPost_ret (v := .tuple #[.slice none 0 0, .int .i64 1]) (by simp [results, Tryd.results25, go_sem]) rfl ⟨rfl, hB.out⟩
set_option maxHeartbeats 1000000 in
set_option maxRecDepth 100000 in
theorem climb_arg2 (n i : Int) (s : ByteArray) (A0 : Option Addr) (c0 : Nat) (path : List ByteArray) (w : World) (h0 : ¬ n < 1) (h : 4096 < n) :
    Calls Tryd.prog 25 #[.int .i64 n, .int .i64 i, .string s, .slice A0 path.length c0] w fun e w' => e = .returned (.tuple #[.slice none 0 0, .int .i64 1]) ∧ Below w.heap.size w w' := by
  have hB := Lib.hid (Below.refl w.heap.size w)
  have d7663 : decide (n < 1) = false := by simp; omega
  have d2580 : decide (4096 < n) = true := by simp; omega
  go_enter Tryd.func25, Tryd.ntmps25
  go_wp2
  refine bodyPost_ret (v := .tuple #[.slice none 0 0, .int .i64 1]) (by simp [results, Tryd.results25, go_sem]) rfl ⟨rfl, hB.out⟩
set_option maxHeartbeats 1000000 in
set_option maxRecDepth 100000 in
theorem climb_arg3 (n i : Int) (s : ByteArray) (A0 : Option Addr) (c0 : Nat) (path : List ByteArray) (w : World) (h0 : ¬ n < 1) (h1 : ¬ 4096 < n) (h : i < 0) :
    Calls Tryd.prog 25 #[.int .i64 n, .int .i64 i, .string s, .slice A0 path.length c0] w fun e w' => e = .returned (.tuple #[.slice none 0 0, .int .i64 1]) ∧ Below w.heap.size w w' := by
  have hB := Lib.hid (Below.refl w.heap.size w)
  have d7663 : decide (n < 1) = false := by simp; omega
  have d2580 : decide (4096 < n) = false := by simp; omega
  have d2227 : decide (i < 0) = true := by simp; omega
  go_enter Tryd.func25, Tryd.ntmps25
  go_wp2
  refine bodyPost_ret (v := .tuple #[.slice none 0 0, .int .i64 1]) (by simp [results, Tryd.results25, go_sem]) rfl ⟨rfl, hB.out⟩
set_option maxHeartbeats 1000000 in
set_option maxRecDepth 100000 in
theorem climb_arg4 (n i : Int) (s : ByteArray) (A0 : Option Addr) (c0 : Nat) (path : List ByteArray) (w : World) (h0 : ¬ n < 1) (h1 : ¬ 4096 < n) (h2 : ¬ i < 0) (h : n ≤ i) :
    Calls Tryd.prog 25 #[.int .i64 n, .int .i64 i, .string s, .slice A0 path.length c0] w fun e w' => e = .returned (.tuple #[.slice none 0 0, .int .i64 1]) ∧ Below w.heap.size w w' := by
  have hB := Lib.hid (Below.refl w.heap.size w)
  have d7663 : decide (n < 1) = false := by simp; omega
  have d2580 : decide (4096 < n) = false := by simp; omega
  have d2227 : decide (i < 0) = false := by simp; omega
  have d8312 : decide (n ≤ i) = true := by simp; omega
  go_enter Tryd.func25, Tryd.ntmps25
  go_wp2
  refine bodyPost_ret (v := .tuple #[.slice none 0 0, .int .i64 1]) (by simp [results, Tryd.results25, go_sem]) rfl ⟨rfl, hB.out⟩
set_option maxHeartbeats 4000000 in
set_option maxRecDepth 100000 in
theorem climb_bad (N i : Nat) (s : ByteArray) (A0 : Option Addr) (c0 : Nat) (path : List ByteArray) (w : World) (hN : N ≤ 4096) (hi : i < N) (hr : Kd.C Kd.string w A0 path.length path) (hc : path.length ≤ c0)
    (hbad : path.length ≠ (TM.wayL 0 N i).length ∨ ∃ p ∈ path, p.size ≠ 32) :
    Calls Tryd.prog 25 #[.int .i64 (N : Int), .int .i64 (i : Int), .string s, .slice A0 path.length c0] w fun e w' => e = .returned (.tuple #[.slice none 0 0, .int .i64 14]) ∧ Below w.heap.size w w' := by
  have h12 := TM.way_le 12 N 0 i hN
  have hd1 : decide ((N : Int) < 1) = false := by simp; omega
  have hd2 : decide ((4096 : Int) < (N : Int)) = false := by simp; omega
  have hd3 : decide ((i : Int) < 0) = false := by simp
  have hd4 : decide ((N : Int) ≤ (i : Int)) = false := by simp; omega
  have hd5 : decide (N ≤ i) = false := by simp; omega
  have HR := Lib.hid hr; have HBad := Lib.hid hbad
  clear hr hbad
  go_enter Tryd.func25, Tryd.ntmps25
  go_wp2_with (go_at_call 33; refine Pause'.out ?_)
  constructor
  refine (way_any _ _ _).mono ?_
  rintro e u ⟨rfl, rfl⟩
  go_wp2_with (go_at_call 48; refine Pause'.out ?_)
  constructor
  have bN := (Boxed.new w 3 (.int .i64 (N : Int))).alloc (.cells #[.int .i64 (i : Int)] 3)
  have bI := Boxed.new (w.alloc (.cells #[.int .i64 (N : Int)] 3)) 3 (.int .i64 (i : Int))
  have hB0 : Below w.heap.size w ((w.alloc (.cells #[.int .i64 (N : Int)] 3)).alloc (.cells #[.int .i64 (i : Int)] 3)) := ((Below.refl _ w).alloc (Nat.le_refl _) _).alloc (by simp) _
  simp only [World.size_alloc] at bI
  have hsz : ((w.alloc (.cells #[.int .i64 (N : Int)] 3)).alloc (.cells #[.int .i64 (i : Int)] 3)).heap.size = w.heap.size + 2 := by simp
  generalize (w.alloc (.cells #[.int .i64 (N : Int)] 3)).alloc (.cells #[.int .i64 (i : Int)] 3) = W0 at *
  refine (collect_any N hN i hi w.heap.size (w.heap.size + 1) W0 (by omega) bI bN.cell).mono ?_
  rintro e u ⟨v, rfl, h1, h2⟩
  have hB := hB0.trans (h2.mono (by omega))
  have HA := Lib.hid hB
  obtain ⟨vA, vc, hv⟩ : ∃ A c, v = .slice A (TM.wayL 0 N i).length c := by
    rcases h1.2 with ⟨rfl, h0⟩ | ⟨g, cap, cur, rfl, _⟩
    · exact ⟨none, 0, by rw [h0]⟩
    · exact ⟨_, _, rfl⟩
  subst hv
  clear h1 h2 hB bN bI hB0 hsz
  by_cases hp : path.length = (TM.wayL 0 N i).length
  · have hany : path.any (fun p => decide (p.size ≠ 32)) = true := by
      rcases HBad.out with h | ⟨p, hp1, hp2⟩
      · exact absurd hp h
      · exact List.any_eq_true.2 ⟨p, hp1, by simpa using hp2⟩
    have HP := Lib.hid hp
    have HCF := Lib.hid (contains_any A0 c0 path true u (Kd.C_below HR.out HA.out) (by rw [hp]; omega) hany.symm)
    have hbe : ((path.length : Int) != ((TM.wayL 0 N i).length : Int)) = false := by rw [HP.out]; simp
    have hbe2 : (path.length == (TM.wayL 0 N i).length) = true := by rw [HP.out]; simp
    clear hp hany HBad
    go_wp2_with (go_at_call 50; refine Pause'.out ?_)
    constructor
    refine HCF.out.mono ?_
    rintro e u1 ⟨rfl, hb1⟩
    have HA1 := Lib.hid (HA.out.trans (hb1.mono HA.out.size))
    clear hb1 HCF
    go_wp2
    refine bodyPost_ret (v := .tuple #[.slice none 0 0, .int .i64 14]) (by simp [results, Tryd.results25, go_sem]) rfl ⟨rfl, HA1.out⟩
  · have hbe : ((path.length : Int) != ((TM.wayL 0 N i).length : Int)) = true := bne_iff_ne.mpr (by omega)
    have hbe2 : (path.length == (TM.wayL 0 N i).length) = false := beq_eq_false_iff_ne.mpr hp
    clear hp HBad
    go_wp2
    refine bodyPost_ret (v := .tuple #[.slice none 0 0, .int .i64 14]) (by simp [results, Tryd.results25, go_sem]) rfl ⟨rfl, HA.out⟩
theorem tree_Climb.calls (a0 a1 : Int) (a2 : ByteArray) (A3 : Option Addr) (c3 : Nat) (l3 : List ByteArray) (r1 : List ByteArray) (r2 : Int) (w : World) (hT : Tabs w) (hr3 : Kd.C Kd.string w A3 l3.length l3) (hc3 : l3.length ≤ c3) (h : tree_Climb.f a0 a1 a2 l3 = some (r1, r2)) :
    Calls Tryd.prog 25 #[.int .i64 a0, .int .i64 a1, .string a2, .slice A3 l3.length c3] w fun e w' => ∃ v0_ : Value, e = .returned (.tuple #[v0_, .int .i64 r2]) ∧ Kd.R Kd.string 9 w' w.heap.size (fun _ => True) v0_ r1 ∧ Below w.heap.size w w' := by
  unfold tree_Climb.f at h
  have fin : ∀ k : Int, some (([] : List ByteArray), k) = some (r1, r2) → (Calls Tryd.prog 25 #[.int .i64 a0, .int .i64 a1, .string a2, .slice A3 l3.length c3] w fun e w' => e = .returned (.tuple #[.slice none 0 0, .int .i64 k]) ∧ Below w.heap.size w w') →
      Calls Tryd.prog 25 #[.int .i64 a0, .int .i64 a1, .string a2, .slice A3 l3.length c3] w fun e w' => ∃ v0_ : Value, e = .returned (.tuple #[v0_, .int .i64 r2]) ∧ Kd.R Kd.string 9 w' w.heap.size (fun _ => True) v0_ r1 ∧ Below w.heap.size w w' := fun k hk hcall => by
    obtain ⟨rfl, rfl⟩ := Prod.mk.inj (Option.some.inj hk)
    exact hcall.mono fun e w' ⟨he, hb⟩ => ⟨_, he, Kd.R_nil _ _ _ _ _, hb⟩
  by_cases h1 : a0 < 1
  · rw [if_pos (.inl h1)] at h
    exact fin _ h (climb_arg1 _ _ _ _ _ _ _ h1)
  by_cases h2 : 4096 < a0
  · rw [if_pos (.inr (.inl h2))] at h
    exact fin _ h (climb_arg2 _ _ _ _ _ _ _ h1 h2)
  by_cases h3 : a1 < 0
  · rw [if_pos (.inr (.inr (.inl h3)))] at h
    exact fin _ h (climb_arg3 _ _ _ _ _ _ _ h1 h2 h3)
  by_cases h4 : a0 ≤ a1
  · rw [if_pos (.inr (.inr (.inr h4)))] at h
    exact fin _ h (climb_arg4 _ _ _ _ _ _ _ h1 h2 h3 h4)
  rw [if_neg (by omega)] at h
  obtain ⟨N, rfl⟩ : ∃ N : Nat, a0 = (N : Int) := ⟨a0.toNat, by omega⟩
  obtain ⟨i, rfl⟩ : ∃ i : Nat, a1 = (i : Int) := ⟨a1.toNat, by omega⟩
  rw [Int.toNat_natCast, Int.toNat_natCast] at h
  by_cases h5 : l3.length ≠ (TM.wayL 0 N i).length ∨ ∃ p ∈ l3, p.size ≠ 32
  · rw [if_pos h5] at h
    exact fin _ h (climb_bad N i a2 A3 c3 l3 w (by omega) (by omega) hr3 hc3 h5)
  · rw [if_neg h5] at h
    by_cases h6 : a2.size ≤ 562949953421311
    · rw [if_pos h6] at h
      obtain ⟨rfl, rfl⟩ := Prod.mk.inj (Option.some.inj h)
      have h7 : l3.length = (TM.wayL 0 N i).length := Decidable.byContradiction fun hn => h5 (.inl hn)
      refine (climb_any N i a2 A3 c3 l3 w hT (by omega) (by omega) h6 hr3 hc3 h7 (fun p hp => Decidable.byContradiction fun hn => h5 (.inr ⟨p, hp, hn⟩))).mono ?_
      rintro e w' ⟨v, he, ho, hb⟩
      refine ⟨v, he, Kd.R_of_own ?_ (fun _ _ => trivial), hb⟩
      rw [List.length_append, TM.climbF_length sumB _ _ _ (by rw [TM.rights_length, h7]), TM.rights_length, ← h7]
      have : [TM.leafB a2].length + l3.length + [rootB N (sumB (TM.lastB (TM.climbF sumB (TM.rights 0 N i) l3 [TM.leafB a2])))].length = l3.length + 2 := by simp; omega
      rw [this]
      exact ho
    · rw [if_neg h6] at h
      cases h
end Go.Proofs.YtlcmpmodfkmfnaaDoor
