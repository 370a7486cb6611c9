/- cert.May's predicates: an edge, a transaction's number, a sum, a proof. · cert.May's predicate of a proof. · cert.verdict, cert.May: whether a certificate may be. -/
import Derived.Test.YtjlpjpjodhkpdaaGreatDoorLn
import Derived.Test.YtjlpjpjodhkpdaaGreatDoorQE
set_option maxHeartbeats 8000000
set_option maxRecDepth 100000
set_option linter.unusedVariables false
set_option linter.unusedSimpArgs false
namespace Go.Proofs.YtjlpjpjodhkpdaaGreatDoor
open Go.RowKit Go.Proofs.YtjlpjpjodhkpdaaGreatDoor.Q Go.Proofs.YtjlpjpjodhkpdaaGreatDoorW.PrintWords
def placeB (i : Int) : Bool := decide (0 ≤ i ∧ i < 256)
def txnB (n : Int) : Bool := decide (1 ≤ n ∧ n ≤ 32)
def edgeB (x : S32) : Bool := decide (1 ≤ x.f0 ∧ x.f0 ≤ 3) && (txnB x.f1 && (txnB x.f2 && (placeB x.f3 && placeB x.f4)))
theorem place_val (i : Int) : cert_place.f i = some (placeB i) := by
 unfold cert_place.f placeB
 split <;> congr 1
 · rename_i h; by_cases h2 : i < 256 <;> simp [h2] <;> omega
 · rename_i h; rw [eq_comm, decide_eq_false_iff_not]; omega
theorem txn_val (i : Int) : cert_txn.f i = some (txnB i) := by
 unfold cert_txn.f txnB
 split <;> congr 1
 · rename_i h; by_cases h2 : i ≤ 32 <;> simp [h2] <;> omega
 · rename_i h; rw [eq_comm, decide_eq_false_iff_not]; omega
theorem place_any (i : Int) (w : World) : Calls Tryz.prog 65 #[.int .i64 i] w fun e w' => e = .returned (.bool (placeB i)) ∧ Drawn0 w w' :=
 cert_place.calls i _ w (place_val i)
theorem certTxn_any (i : Int) (w : World) : Calls Tryz.prog 101 #[.int .i64 i] w fun e w' => e = .returned (.bool (txnB i)) ∧ Drawn0 w w' :=
 cert_txn.calls i _ w (txn_val i)
theorem certSum_any (s : ByteArray) (w : World) : Calls Tryz.prog 69 #[.string s] w fun e w' => e = .returned (.bool (decide (s.size = 32))) ∧ Drawn0 w w' :=
 cert_sum.calls s (decide (s.size = 32)) w (by unfold cert_sum.f; congr 1; by_cases h : s.size = 32 <;> simp [h]; omega)
theorem pred_txn (l : List Int) (w : World) : PredI 104 #[] l (fun k => !txnB (rd l k)) w := by
 intro k hk W hb
 dsimp only [-dreduceIte]
 generalize rd l (k : Int) = x at *
 have HT := Lib.hid (fun u => certTxn_any x u)
 generalize txnB x = b at *
 show Calls Tryz.prog 104 #[.int .i64 x] W _
 clear hb
 cases b <;>
 · go_enter Tryz.func104, Tryz.ntmps104
   go_wp2_with (go_at_call 101; refine (HT.out _).mono ?_; rintro e w1 ⟨rfl, ⟨nd, rfl⟩⟩)
   go_ret
   exact ⟨rfl, pw_below_drewN (Below.refl _ _) _⟩
theorem pred_sum (l : List ByteArray) (w : World) : PredS 68 #[] l (fun k => !decide ((rdOf ByteArray.empty l k).size = 32)) w := by
 intro k hk W hb
 dsimp only [-dreduceIte]
 generalize rdOf ByteArray.empty l (k : Int) = x at *
 have HT := Lib.hid (fun u => certSum_any x u)
 generalize decide (x.size = 32) = b at *
 show Calls Tryz.prog 68 #[.string x] W _
 clear hb
 cases b <;>
 · go_enter Tryz.func68, Tryz.ntmps68
   go_wp2_with (go_at_call 69; refine (HT.out _).mono ?_; rintro e w1 ⟨rfl, ⟨nd, rfl⟩⟩)
   go_ret
   exact ⟨rfl, pw_below_drewN (Below.refl _ _) _⟩
theorem pred_edge (l : List S32) (w : World) : PredE 100 #[] l (fun k => !edgeB (rd_T32 l k)) w := by
 intro k hk W hb
 dsimp only [-dreduceIte]
 unfold edgeB
 generalize rd_T32 l (k : Int) = x at *
 obtain ⟨x0, x1, x2, x3, x4⟩ := x
 dsimp only
 have HT1 := Lib.hid (fun u => certTxn_any x1 u); have HT2 := Lib.hid (fun u => certTxn_any x2 u)
 have HP3 := Lib.hid (fun u => place_any x3 u); have HP4 := Lib.hid (fun u => place_any x4 u)
 show Calls Tryz.prog 100 #[.agg #[.int .i64 x0, .int .i64 x1, .int .i64 x2, .int .i64 x3, .int .i64 x4]] W _
 generalize txnB x1 = b1 at *
 generalize txnB x2 = b2 at *
 generalize placeB x3 = b3 at *
 generalize placeB x4 = b4 at *
 have HB0 := Lib.hid (Below.refl W.heap.size W)
 have HB1 := Lib.hid (below_alloc HB0.out (.cells #[.int .i64 x0, .int .i64 x1, .int .i64 x2, .int .i64 x3, .int .i64 x4] 32))
 clear hb
 by_cases h1 : x0 < 1
 · rw [decide_eq_false (show ¬ (1 ≤ x0 ∧ x0 ≤ 3) by omega)]
   go_enter Tryz.func100, Tryz.ntmps100
   go_wp2
   go_ret
   exact ⟨rfl, HB1.out⟩
 · by_cases h2 : 3 < x0
   · rw [decide_eq_false (show ¬ (1 ≤ x0 ∧ x0 ≤ 3) by omega)]
     go_enter Tryz.func100, Tryz.ntmps100
     go_wp2
     go_ret
     exact ⟨rfl, HB1.out⟩
   · rw [decide_eq_true (show 1 ≤ x0 ∧ x0 ≤ 3 by omega)]
     cases b1
     · go_enter Tryz.func100, Tryz.ntmps100
       go_wp2_with (first | (go_at_call 101; first | (with_reducible refine (HT1.out _).mono ?_; rintro e w1 ⟨rfl, ⟨nd1, rfl⟩⟩) | (with_reducible refine (HT2.out _).mono ?_; rintro e w2 ⟨rfl, ⟨nd2, rfl⟩⟩)) | (go_at_call 65; first | (with_reducible refine (HP3.out _).mono ?_; rintro e w3 ⟨rfl, ⟨nd3, rfl⟩⟩) | (with_reducible refine (HP4.out _).mono ?_; rintro e w4 ⟨rfl, ⟨nd4, rfl⟩⟩)))
       go_ret
       exact ⟨rfl, by repeat (first | (with_reducible first | exact HB1.out | apply pw_below_drewN) | exact HB1.out)⟩
     · cases b2
       · go_enter Tryz.func100, Tryz.ntmps100
         go_wp2_with (first | (go_at_call 101; first | (with_reducible refine (HT1.out _).mono ?_; rintro e w1 ⟨rfl, ⟨nd1, rfl⟩⟩) | (with_reducible refine (HT2.out _).mono ?_; rintro e w2 ⟨rfl, ⟨nd2, rfl⟩⟩)) | (go_at_call 65; first | (with_reducible refine (HP3.out _).mono ?_; rintro e w3 ⟨rfl, ⟨nd3, rfl⟩⟩) | (with_reducible refine (HP4.out _).mono ?_; rintro e w4 ⟨rfl, ⟨nd4, rfl⟩⟩)))
         go_ret
         exact ⟨rfl, by repeat (first | (with_reducible first | exact HB1.out | apply pw_below_drewN) | exact HB1.out)⟩
       · cases b3
         · go_enter Tryz.func100, Tryz.ntmps100
           go_wp2_with (first | (go_at_call 101; first | (with_reducible refine (HT1.out _).mono ?_; rintro e w1 ⟨rfl, ⟨nd1, rfl⟩⟩) | (with_reducible refine (HT2.out _).mono ?_; rintro e w2 ⟨rfl, ⟨nd2, rfl⟩⟩)) | (go_at_call 65; first | (with_reducible refine (HP3.out _).mono ?_; rintro e w3 ⟨rfl, ⟨nd3, rfl⟩⟩) | (with_reducible refine (HP4.out _).mono ?_; rintro e w4 ⟨rfl, ⟨nd4, rfl⟩⟩)))
           go_ret
           exact ⟨rfl, by repeat (first | (with_reducible first | exact HB1.out | apply pw_below_drewN) | exact HB1.out)⟩
         · cases b4
           · go_enter Tryz.func100, Tryz.ntmps100
             go_wp2_with (first | (go_at_call 101; first | (with_reducible refine (HT1.out _).mono ?_; rintro e w1 ⟨rfl, ⟨nd1, rfl⟩⟩) | (with_reducible refine (HT2.out _).mono ?_; rintro e w2 ⟨rfl, ⟨nd2, rfl⟩⟩)) | (go_at_call 65; first | (with_reducible refine (HP3.out _).mono ?_; rintro e w3 ⟨rfl, ⟨nd3, rfl⟩⟩) | (with_reducible refine (HP4.out _).mono ?_; rintro e w4 ⟨rfl, ⟨nd4, rfl⟩⟩)))
             go_ret
             exact ⟨rfl, by repeat (first | (with_reducible first | exact HB1.out | apply pw_below_drewN) | exact HB1.out)⟩
           · go_enter Tryz.func100, Tryz.ntmps100
             go_wp2_with (first | (go_at_call 101; first | (with_reducible refine (HT1.out _).mono ?_; rintro e w1 ⟨rfl, ⟨nd1, rfl⟩⟩) | (with_reducible refine (HT2.out _).mono ?_; rintro e w2 ⟨rfl, ⟨nd2, rfl⟩⟩)) | (go_at_call 65; first | (with_reducible refine (HP3.out _).mono ?_; rintro e w3 ⟨rfl, ⟨nd3, rfl⟩⟩) | (with_reducible refine (HP4.out _).mono ?_; rintro e w4 ⟨rfl, ⟨nd4, rfl⟩⟩)))
             go_ret
             exact ⟨rfl, by repeat (first | (with_reducible first | exact HB1.out | apply pw_below_drewN) | exact HB1.out)⟩
end Go.Proofs.YtjlpjpjodhkpdaaGreatDoor
namespace Go.Proofs.YtjlpjpjodhkpdaaGreatDoor
open Go.RowKit Go.Proofs.YtjlpjpjodhkpdaaGreatDoor.Q Go.Proofs.YtjlpjpjodhkpdaaGreatDoorW.PrintWords
theorem all_first {α : Type} (l : List α) (d : α) (q : α → Bool) : decide (0 ≤ firstFrom (fun k => !q (l.getD k d)) 0 l.length) = !l.all q := by
 rcases firstFrom_zero (fun k => !q (l.getD k d)) l.length with ⟨h1, h2⟩ | ⟨k, h1, h2, h3, h4⟩
 · rw [h1]
   have ha : l.all q = true := by
    rw [List.all_eq_true]
    intro x hx
    obtain ⟨j, hj, rfl⟩ := List.getElem_of_mem hx
    have := h2 j hj
    simp only [List.getD_eq_getElem?_getD, List.getElem?_eq_getElem hj, Option.getD_some] at this
    simpa using this
   rw [ha]; rfl
 · rw [h1]
   have ha : l.all q = false := by
    rw [List.all_eq_false]
    simp only [List.getD_eq_getElem?_getD, List.getElem?_eq_getElem h2, Option.getD_some] at h3
    exact ⟨_, List.getElem_mem h2, by simpa using h3⟩
   rw [ha]
   simp
def evB (e : Evn) : Bool := (event_May.f 9 e.f0 e.f1 e.f2 e.f3).getD false
theorem ev_some (a b : Int) (c d : ByteArray) : ∃ r, event_May.f 9 a b c d = some r := by
 have h1 : ∀ x0 x1 x2 x3 x4 x5 x6 x7 x8, ∃ r, event_May.j1 8 x0 x1 x2 x3 x4 x5 x6 x7 x8 = some r := by
  intro x0 x1 x2 x3 x4 x5 x6 x7 x8
  simp only [event_May.j1, event_keyed.f]
  repeat' split
  all_goals first | exact ⟨_, rfl⟩ | (simp only [Option.bind_some]; repeat' split) <;> exact ⟨_, rfl⟩
 have h0 : ∀ x0 x1 x2 x3 x4 x5 x6 x7 x8, ∃ r, event_May.j0 9 x0 x1 x2 x3 x4 x5 x6 x7 x8 = some r := by
  intro x0 x1 x2 x3 x4 x5 x6 x7 x8
  simp only [event_May.j0]
  repeat' split
  all_goals first | exact ⟨_, rfl⟩ | exact h1 _ _ _ _ _ _ _ _ _
 unfold event_May.f
 split <;> exact h0 _ _ _ _ _ _ _ _ _
theorem ev_val (e : Evn) : event_May.f 9 e.f0 e.f1 e.f2 e.f3 = some (evB e) := by
 obtain ⟨r, h⟩ := ev_some e.f0 e.f1 e.f2 e.f3
 unfold evB
 rw [h]; rfl
theorem ev_any (e0 e1 : Int) (e2 e3 : ByteArray) (w : World) : Calls Tryz.prog 66 #[.agg #[.int .i64 e0, .int .i64 e1, .string e2, .string e3]] w fun e w' => e = .returned (.bool (evB ⟨e0, e1, e2, e3⟩)) ∧ Below w.heap.size w w' :=
 event_May.calls 9 e0 e1 e2 e3 _ w (ev_val ⟨e0, e1, e2, e3⟩)
def sumsB (l : List ByteArray) : Bool := l.all fun s => decide (s.size = 32)
def prfB (x : Prf) : Bool := placeB x.f0 && (evB x.f1 && (decide (x.f2.length ≤ 12) && sumsB x.f2))
theorem rdOf_nat (l : List ByteArray) (k : Nat) : rdOf ByteArray.empty l (k : Int) = l.getD k ByteArray.empty := by
 unfold rdOf
 rw [Int.toNat_natCast]
theorem sums_any (A0 : Option Addr) (c0 : Nat) (l : List ByteArray) (w : World) (hr : Kd.C Kd.string w A0 l.length l) (hl : l.length ≤ 9223372036854775806) :
 Calls Tryz.prog 67 #[.slice A0 l.length c0, .func (.func 68) #[] #[]] w fun e w' => e = .returned (.bool (!sumsB l)) ∧ Below w.heap.size w w' := by
 have eg : ∀ args w, (callFunc 68 args).run Tryz.prog w = .ok (.enter 68 args) w := enters_of Tryz.func68 (by kernel_rfl) rfl
 have h := containsS_any 68 eg #[] A0 c0 l _ w hr hl (pred_sum l w)
 have e1 : (fun k : Nat => !decide ((rdOf ByteArray.empty l (k : Int)).size = 32)) = (fun k : Nat => !(fun s : ByteArray => decide (s.size = 32)) (l.getD k ByteArray.empty)) := by
  funext k
  rw [rdOf_nat]
 rw [e1, all_first l ByteArray.empty (fun s => decide (s.size = 32))] at h
 exact h
theorem pred_prf (l : List Prf) (w : World) : PredP 64 #[] l (fun k => !prfB (rd_T55 l k)) w := by
 intro k hk W hb A5 c5 h5 hC
 dsimp only [-dreduceIte]
 unfold prfB
 generalize rd_T55 l (k : Int) = x at *
 obtain ⟨x0, ⟨x1, x2, x3, x4⟩, x5⟩ := x
 dsimp only at *
 have HP := Lib.hid (fun u => place_any x0 u); have HE := Lib.hid (fun u => ev_any x1 x2 x3 x4 u); 
 have HS := Lib.hid (fun u (hb : Below W.heap.size W u) (h12 : x5.length ≤ 12) => sums_any A5 c5 x5 u (Kd.C_below hC hb) (by omega))
 show Calls Tryz.prog 64 #[.agg #[.int .i64 x0, .int .i64 x1, .int .i64 x2, .string x3, .string x4, .slice A5 x5.length c5]] W _
 generalize placeB x0 = b1 at *
 generalize evB ⟨x1, x2, x3, x4⟩ = b2 at *
 generalize sumsB x5 = b4 at *
 have HB0 := Lib.hid (Below.refl W.heap.size W)
 have HB1 := Lib.hid (below_alloc HB0.out (.cells #[.int .i64 x0, .int .i64 x1, .int .i64 x2, .string x3, .string x4, .slice A5 x5.length c5] 55))
 have HX1 := Lib.hid (RowIs.new W 55 [.int .i64 x0, .int .i64 x1, .int .i64 x2, .string x3, .string x4, .slice A5 x5.length c5])
 clear hb hC
 cases b1
 · go_enter Tryz.func64, Tryz.ntmps64
   go_wp2_with (go_at_call 65; with_reducible refine (HP.out _).mono ?_; rintro e w3 ⟨rfl, ⟨nd3, rfl⟩⟩)
   go_ret
   exact ⟨rfl, by repeat (first | (with_reducible first | exact HB1.out | apply pw_below_drewN) | exact HB1.out)⟩
 · cases b2
   · go_enter Tryz.func64, Tryz.ntmps64
     go_wp2_with (first | (go_at_call 65; with_reducible refine (HP.out _).mono ?_; rintro e w3 ⟨rfl, ⟨nd3, rfl⟩⟩) | (go_at_call 66; with_reducible refine (HE.out _).mono ?_; rintro e w4 ⟨rfl, hb⟩; have HB2 := Lib.hid (below_step (pw_below_drewN HB1.out _) hb); clear hb))
     go_ret
     exact ⟨rfl, HB2.out⟩
   · by_cases h12 : x5.length ≤ 12
     · have h12' : ¬ (12 : Int) < (x5.length : Int) := by omega
       rw [decide_eq_true h12]
       cases b4
       · go_enter Tryz.func64, Tryz.ntmps64
         go_wp2_with (first | (go_at_call 65; with_reducible refine (HP.out _).mono ?_; rintro e w3 ⟨rfl, ⟨nd3, rfl⟩⟩) | (go_at_call 66; with_reducible refine (HE.out _).mono ?_; rintro e w4 ⟨rfl, hb⟩; have HB2 := Lib.hid (below_step (pw_below_drewN HB1.out _) hb); have hx := (HX1.out.drewN nd3).below hb; have c5 := hx.cell (i := 5) rfl; clear hb hx) | (go_at_call 67; with_reducible refine (HS.out _ HB2.out h12).mono ?_; rintro e w5 ⟨rfl, hb⟩; have HB3 := Lib.hid (below_step HB2.out hb); clear hb))
         go_ret
         exact ⟨by first | rfl | (simp [*]; done) | (simp; omega), HB3.out⟩
       · go_enter Tryz.func64, Tryz.ntmps64
         go_wp2_with (first | (go_at_call 65; with_reducible refine (HP.out _).mono ?_; rintro e w3 ⟨rfl, ⟨nd3, rfl⟩⟩) | (go_at_call 66; with_reducible refine (HE.out _).mono ?_; rintro e w4 ⟨rfl, hb⟩; have HB2 := Lib.hid (below_step (pw_below_drewN HB1.out _) hb); have hx := (HX1.out.drewN nd3).below hb; have c5 := hx.cell (i := 5) rfl; clear hb hx) | (go_at_call 67; with_reducible refine (HS.out _ HB2.out h12).mono ?_; rintro e w5 ⟨rfl, hb⟩; have HB3 := Lib.hid (below_step HB2.out hb); clear hb))
         go_ret
         exact ⟨by first | rfl | (simp [*]; done) | (simp; omega), HB3.out⟩
     · have h12' : (12 : Int) < (x5.length : Int) := by omega
       rw [decide_eq_false h12]
       go_enter Tryz.func64, Tryz.ntmps64
       go_wp2_with (first | (go_at_call 65; with_reducible refine (HP.out _).mono ?_; rintro e w3 ⟨rfl, ⟨nd3, rfl⟩⟩) | (go_at_call 66; with_reducible refine (HE.out _).mono ?_; rintro e w4 ⟨rfl, hb⟩; have HB2 := Lib.hid (below_step (pw_below_drewN HB1.out _) hb); have hx := (HX1.out.drewN nd3).below hb; have c5 := hx.cell (i := 5) rfl; clear hb hx))
       go_ret
       exact ⟨rfl, HB2.out⟩
end Go.Proofs.YtjlpjpjodhkpdaaGreatDoor
namespace Go.Proofs.YtjlpjpjodhkpdaaGreatDoor
open Go.RowKit Go.Proofs.YtjlpjpjodhkpdaaGreatDoor.Q Go.Proofs.YtjlpjpjodhkpdaaGreatDoorW.PrintWords
abbrev Edg := S32
structure CertD where
 tenant : ByteArray
 seq : Int
 prev : ByteArray
 root : ByteArray
 count : Int
 level : Int
 accept : Bool
 order : List Int
 bk : Int
 bi : Int
 bj : Int
 ring : List Edg
 proofs : List Prf
def verB (level : Int) (order : List Int) (bk bi bj : Int) (ring : List Edg) : Bool :=
 decide (1 ≤ level ∧ level ≤ 2 ∧ order.length ≤ 32 ∧ 0 ≤ bk ∧ bk ≤ 4) && (placeB bi && (placeB bj && (decide (ring.length ≤ 128) && (ring.all edgeB && order.all txnB))))
theorem edges_any (A0 : Option Addr) (c0 : Nat) (l : List Edg) (w : World) (hr : Kd.C k32 w A0 l.length l) (hl : l.length ≤ 9223372036854775806) :
 Calls Tryz.prog 102 #[.slice A0 l.length c0, .func (.func 100) #[] #[]] w fun e w' => e = .returned (.bool (!l.all edgeB)) ∧ Below w.heap.size w w' := by
 have eg : ∀ args w, (callFunc 100 args).run Tryz.prog w = .ok (.enter 100 args) w := enters_of Tryz.func100 (by kernel_rfl) rfl
 have h := containsE_any 100 eg #[] A0 c0 l _ w hr hl (pred_edge l w)
 have e1 : (fun k : Nat => !edgeB (rd_T32 l (k : Int))) = (fun k : Nat => !edgeB (l.getD k z32)) := by
  funext k
  unfold rd_T32
  rw [Int.toNat_natCast]
 rw [e1, all_first l z32 edgeB] at h
 exact h
theorem txns_any (A0 : Option Addr) (c0 : Nat) (l : List Int) (w : World) (hr : Kd.C (Kd.int .i64) w A0 l.length l) (hl : l.length ≤ 9223372036854775806) :
 Calls Tryz.prog 103 #[.slice A0 l.length c0, .func (.func 104) #[] #[]] w fun e w' => e = .returned (.bool (!l.all txnB)) ∧ Below w.heap.size w w' := by
 have eg : ∀ args w, (callFunc 104 args).run Tryz.prog w = .ok (.enter 104 args) w := enters_of Tryz.func104 (by kernel_rfl) rfl
 have h := containsI_any 104 eg #[] A0 c0 l _ w hr hl (pred_txn l w)
 have e1 : (fun k : Nat => !txnB (rd l (k : Int))) = (fun k : Nat => !txnB (l.getD k 0)) := by
  funext k
  unfold rd
  rw [Int.toNat_natCast]
 rw [e1, all_first l 0 txnB] at h
 exact h
theorem prfs_any (A0 : Option Addr) (c0 : Nat) (l : List Prf) (w : World) (hr : Kd.C k55 w A0 l.length l) (hl : l.length ≤ 9223372036854775806) :
 Calls Tryz.prog 71 #[.slice A0 l.length c0, .func (.func 64) #[] #[]] w fun e w' => e = .returned (.bool (!l.all prfB)) ∧ Below w.heap.size w w' := by
 have eg : ∀ args w, (callFunc 64 args).run Tryz.prog w = .ok (.enter 64 args) w := enters_of Tryz.func64 (by kernel_rfl) rfl
 have h := containsP_any 64 eg #[] A0 c0 l _ w hr hl (pred_prf l w)
 have e1 : (fun k : Nat => !prfB (rd_T55 l (k : Int))) = (fun k : Nat => !prfB (l.getD k z55)) := by
  funext k
  rw [rdT_nat]
 rw [e1, all_first l z55 prfB] at h
 exact h
theorem certVerdict_any (level : Int) (accept : Bool) (A2 : Option Addr) (c2 : Nat) (order : List Int) (bk bi bj : Int) (A6 : Option Addr) (c6 : Nat) (ring : List Edg) (w : World) (h2 : Kd.C (Kd.int .i64) w A2 order.length order) (h6 : Kd.C k32 w A6 ring.length ring) :
 Calls Tryz.prog 70 #[.agg #[.int .i64 level, .bool accept, .slice A2 order.length c2, .int .i64 bk, .int .i64 bi, .int .i64 bj, .slice A6 ring.length c6]] w fun e w' => e = .returned (.bool (verB level order bk bi bj ring)) ∧ Below w.heap.size w w' := by
 have HI := Lib.hid (fun u => place_any bi u); have HJ := Lib.hid (fun u => place_any bj u)
 have HR := Lib.hid (fun u (hb : Below w.heap.size w u) (h : ring.length ≤ 128) => edges_any A6 c6 ring u (Kd.C_below h6 hb) (by omega))
 have HO := Lib.hid (fun u (hb : Below w.heap.size w u) (h : order.length ≤ 32) => txns_any A2 c2 order u (Kd.C_below h2 hb) (by omega))
 unfold verB
 generalize ring.all edgeB = b3 at *
 generalize order.all txnB = b4 at *
 generalize placeB bi = b1 at *
 generalize placeB bj = b2 at *
 have HB1 := Lib.hid (below_alloc (Below.refl w.heap.size w) (.cells #[.int .i64 level, .bool accept, .slice A2 order.length c2, .int .i64 bk, .int .i64 bi, .int .i64 bj, .slice A6 ring.length c6] 27))
 have HX1 := Lib.hid (RowIs.new w 27 [.int .i64 level, .bool accept, .slice A2 order.length c2, .int .i64 bk, .int .i64 bi, .int .i64 bj, .slice A6 ring.length c6])
 clear h2 h6
 obtain ⟨d, hd⟩ : ∃ d, d = decide (1 ≤ level ∧ level ≤ 2 ∧ order.length ≤ 32 ∧ 0 ≤ bk ∧ bk ≤ 4) := ⟨_, rfl⟩
 rw [← hd]
 have HD := Lib.hid hd
 clear hd
 by_cases q0 : level < 1
 rotate_left
 by_cases q1 : 2 < level
 rotate_left
 by_cases q2 : (32 : Int) < (order.length : Int)
 rotate_left
 by_cases q3 : bk < 0
 rotate_left
 by_cases q4 : 4 < bk
 rotate_left
 have g2 : order.length ≤ 32 := by omega
 cases b1
 rotate_left
 cases b2
 rotate_left
 by_cases g6 : ¬ ring.length ≤ 128
 have q6 : (128 : Int) < (ring.length : Int) := by omega
 rw [decide_eq_false g6]
 rotate_left
 have q6 : ¬ (128 : Int) < (ring.length : Int) := by omega
 replace g6 := Decidable.not_not.1 g6
 rw [decide_eq_true g6]
 cases b3
 rotate_left
 cases b4
 all_goals first | (have hh : d = false := HD.out.trans (decide_eq_false (by omega)); subst hh) | (have hh : d = true := HD.out.trans (decide_eq_true (by omega)); subst hh)
 all_goals clear HD
 all_goals go_enter Tryz.func70, Tryz.ntmps70
 all_goals go_wp2_with (first | (go_at_call 65; first | (with_reducible refine (HI.out _).mono ?_; rintro e w2 ⟨rfl, ⟨nd2, rfl⟩⟩) | (with_reducible refine (HJ.out _).mono ?_; rintro e w3 ⟨rfl, ⟨nd3, rfl⟩⟩)) | (go_at_call 102; refine (HR.out _ ?hbx g6).mono ?_; (case hbx => repeat (first | (with_reducible first | exact HB1.out | apply pw_below_drewN) | exact HB1.out)); rintro e w4 ⟨rfl, hb⟩; have HB4 := Lib.hid (below_step (by repeat (first | (with_reducible first | exact HB1.out | apply pw_below_drewN) | exact HB1.out)) hb); have hx := RowIs.below (by exact HX1.out) hb; have x2 := hx.cell (i := 2) rfl; clear hb hx) | (go_at_call 103; refine (HO.out _ HB4.out g2).mono ?_; rintro e w5 ⟨rfl, hb⟩; have HB5 := Lib.hid (below_step HB4.out hb); clear hb))
 all_goals go_ret
 all_goals exact ⟨by first | rfl | (simp [*]; done) | (simp; omega), by first | exact HB5.out | exact HB4.out | (repeat (first | (with_reducible first | exact HB1.out | apply pw_below_drewN) | exact HB1.out))⟩
end Go.Proofs.YtjlpjpjodhkpdaaGreatDoor
