/- The document's example: its leaves, root and paths. -/
import Derived.Test.YtjlpjpjodhkpdaaGreatDoorShD
import Derived.Test.YtjlpjpjodhkpdaaGreatDoorQB
set_option linter.unusedVariables false
set_option linter.unusedSimpArgs false
namespace Go.Proofs.YtjlpjpjodhkpdaaGreatDoor
open Go.RowKit Go.Proofs.YtjlpjpjodhkpdaaGreatDoor.Q Go.Proofs.YtjlpjpjodhkpdaaGreatDoorW.PrintWords
def lv : List ByteArray := [⟨#[1, 1]⟩, ⟨#[1, 2]⟩, ⟨#[2, 1, 32, 89, 38, 24, 120, 188, 207, 31, 249, 206, 120, 19, 236, 116, 116, 241, 216, 148, 107, 17, 88, 98, 132, 50, 13, 131, 23, 164, 58, 210, 249, 178, 160, 0]⟩, ⟨#[2, 2, 32, 89, 38, 24, 120, 188, 207, 31, 249, 206, 120, 19, 236, 116, 116, 241, 216, 148, 107, 17, 88, 98, 132, 50, 13, 131, 23, 164, 58, 210, 249, 178, 160, 0]⟩, ⟨#[3, 1, 32, 89, 38, 24, 120, 188, 207, 31, 249, 206, 120, 19, 236, 116, 116, 241, 216, 148, 107, 17, 88, 98, 132, 50, 13, 131, 23, 164, 58, 210, 249, 178, 160, 32, 25, 222, 178, 63, 147, 186, 167, 18, 113, 93, 124, 234, 31, 156, 29, 47, 222, 176, 185, 230, 97, 244, 49, 0, 27, 165, 179, 9, 80, 42, 108, 172]⟩, ⟨#[3, 2, 32, 89, 38, 24, 120, 188, 207, 31, 249, 206, 120, 19, 236, 116, 116, 241, 216, 148, 107, 17, 88, 98, 132, 50, 13, 131, 23, 164, 58, 210, 249, 178, 160, 32, 186, 250, 234, 124, 131, 8, 189, 235, 104, 153, 137, 253, 222, 88, 190, 124, 96, 71, 11, 207, 32, 201, 195, 99, 12, 136, 242, 121, 187, 46, 152, 19]⟩, ⟨#[4, 1]⟩, ⟨#[4, 2]⟩]
def rootV : ByteArray := ⟨#[86, 150, 217, 45, 43, 180, 107, 176, 68, 127, 132, 35, 205, 105, 2, 171, 180, 57, 192, 254, 45, 185, 21, 148, 15, 198, 101, 231, 206, 42, 23, 220]⟩
def path3 : List ByteArray := [⟨#[126, 77, 178, 109, 246, 185, 114, 53, 37, 204, 225, 10, 202, 248, 33, 82, 170, 50, 236, 30, 0, 215, 97, 5, 41, 118, 149, 19, 143, 167, 225, 2]⟩, ⟨#[29, 105, 243, 254, 113, 96, 144, 213, 108, 32, 186, 53, 159, 211, 189, 116, 234, 233, 254, 95, 147, 108, 243, 61, 88, 157, 60, 250, 74, 26, 191, 115]⟩, ⟨#[185, 200, 112, 28, 118, 97, 110, 73, 179, 60, 14, 218, 126, 102, 115, 187, 13, 74, 168, 226, 1, 163, 252, 234, 103, 103, 31, 180, 139, 106, 33, 66]⟩]
def path4 : List ByteArray := [⟨#[38, 141, 52, 203, 140, 13, 160, 21, 163, 242, 37, 49, 24, 226, 104, 118, 170, 201, 153, 172, 55, 173, 105, 76, 46, 180, 8, 38, 86, 44, 47, 215]⟩, ⟨#[182, 4, 107, 105, 78, 155, 20, 42, 110, 123, 214, 46, 86, 77, 148, 77, 51, 254, 48, 116, 76, 159, 209, 126, 138, 243, 17, 123, 125, 109, 5, 158]⟩, ⟨#[205, 208, 223, 85, 200, 69, 171, 178, 42, 198, 166, 203, 53, 94, 241, 51, 123, 208, 27, 71, 7, 137, 150, 217, 61, 76, 119, 178, 196, 61, 9, 92]⟩]
def path5 : List ByteArray := [⟨#[49, 38, 30, 211, 118, 200, 26, 209, 117, 184, 18, 244, 1, 212, 45, 136, 216, 194, 224, 189, 169, 90, 188, 119, 201, 16, 251, 101, 253, 77, 87, 191]⟩, ⟨#[182, 4, 107, 105, 78, 155, 20, 42, 110, 123, 214, 46, 86, 77, 148, 77, 51, 254, 48, 116, 76, 159, 209, 126, 138, 243, 17, 123, 125, 109, 5, 158]⟩, ⟨#[205, 208, 223, 85, 200, 69, 171, 178, 42, 198, 166, 203, 53, 94, 241, 51, 123, 208, 27, 71, 7, 137, 150, 217, 61, 76, 119, 178, 196, 61, 9, 92]⟩]
def path6 : List ByteArray := [⟨#[245, 141, 231, 69, 27, 206, 142, 106, 234, 231, 19, 129, 219, 188, 170, 132, 161, 189, 118, 223, 234, 193, 17, 26, 101, 107, 158, 137, 199, 46, 171, 120]⟩, ⟨#[55, 120, 39, 200, 242, 8, 78, 78, 165, 100, 8, 221, 184, 209, 95, 0, 43, 5, 207, 222, 128, 121, 145, 168, 229, 11, 55, 239, 184, 144, 56, 119]⟩, ⟨#[205, 208, 223, 85, 200, 69, 171, 178, 42, 198, 166, 203, 53, 94, 241, 51, 123, 208, 27, 71, 7, 137, 150, 217, 61, 76, 119, 178, 196, 61, 9, 92]⟩]
def path7 : List ByteArray := [⟨#[231, 85, 130, 6, 47, 231, 78, 75, 171, 55, 89, 195, 252, 111, 122, 218, 229, 151, 32, 249, 188, 174, 29, 183, 146, 142, 39, 27, 247, 219, 164, 64]⟩, ⟨#[55, 120, 39, 200, 242, 8, 78, 78, 165, 100, 8, 221, 184, 209, 95, 0, 43, 5, 207, 222, 128, 121, 145, 168, 229, 11, 55, 239, 184, 144, 56, 119]⟩, ⟨#[205, 208, 223, 85, 200, 69, 171, 178, 42, 198, 166, 203, 53, 94, 241, 51, 123, 208, 27, 71, 7, 137, 150, 217, 61, 76, 119, 178, 196, 61, 9, 92]⟩]
theorem leaves_val : cartoucheref06_Leaves.f 300 r0 = some (lv, 0) := by kernel_rfl
theorem root_val : cartoucheref03_Root.f 300 lv = some (rootV, 0) := by kernel_rfl
theorem path_val3 : cartoucheref03_Path.f 30 lv 3 = some (path3, 0) := by kernel_rfl
theorem path_val4 : cartoucheref03_Path.f 30 lv 4 = some (path4, 0) := by kernel_rfl
theorem path_val5 : cartoucheref03_Path.f 30 lv 5 = some (path5, 0) := by kernel_rfl
theorem path_val6 : cartoucheref03_Path.f 30 lv 6 = some (path6, 0) := by kernel_rfl
theorem path_val7 : cartoucheref03_Path.f 30 lv 7 = some (path7, 0) := by kernel_rfl
theorem leaves_c (A : Option Addr) (c : Nat) (hc : 8 ≤ c) (w : World) (hr : Kd.C k53 w A 8 r0) : Calls Tryz.prog 19 #[.slice A 8 c] w fun e w' => (∃ B d, e = .returned (.tuple #[.slice B 8 d, .int .i64 0]) ∧ 8 ≤ d ∧ Kd.C Kd.string w' B 8 lv) ∧ Below w.heap.size w w' :=
 (cartoucheref06_Leaves.calls 300 A c r0 lv 0 w hr hc leaves_val).mono fun e w' ⟨v, he, hr, hb⟩ => by
   obtain ⟨B, d, rfl, hd, hC⟩ := Kd.R_reads hr
   exact ⟨⟨B, d, he, hd, hC⟩, hb⟩
theorem root_c (A : Option Addr) (c : Nat) (hc : 8 ≤ c) (w : World) (hr : Kd.C Kd.string w A 8 lv) : Calls Tryz.prog 20 #[.slice A 8 c] w fun e w' => e = .returned (.tuple #[.string rootV, .int .i64 0]) ∧ Below w.heap.size w w' :=
 cartoucheref03_Root.calls 300 A c lv rootV 0 w hr hc root_val
def pathOf (n : Nat) : List ByteArray := if n = 3 then path3 else if n = 4 then path4 else if n = 5 then path5 else if n = 6 then path6 else path7
theorem path_len (n : Nat) : (pathOf n).length = 3 := by unfold pathOf; split <;> (try split) <;> (try split) <;> (try split) <;> rfl
theorem path_c (A : Option Addr) (c : Nat) (hc : 8 ≤ c) (w : World) (hr : Kd.C Kd.string w A 8 lv) (n : Nat) (h3 : 3 ≤ n) (h8 : n < 8) : Calls Tryz.prog 26 #[.slice A 8 c, .int .i64 n] w fun e w' => (∃ v, e = .returned (.tuple #[v, .int .i64 0]) ∧ Kd.R Kd.string 9 w' w.heap.size (fun _ => True) v (pathOf n)) ∧ Below w.heap.size w w' := by
 have hn : n = 3 ∨ n = 4 ∨ n = 5 ∨ n = 6 ∨ n = 7 := by omega
 rcases hn with rfl | rfl | rfl | rfl | rfl
 · exact (cartoucheref03_Path.calls 30 A c lv 3 path3 0 w hr hc path_val3).mono fun e w' ⟨v, he, hr, hb⟩ => ⟨⟨v, he, hr⟩, hb⟩
 · exact (cartoucheref03_Path.calls 30 A c lv 4 path4 0 w hr hc path_val4).mono fun e w' ⟨v, he, hr, hb⟩ => ⟨⟨v, he, hr⟩, hb⟩
 · exact (cartoucheref03_Path.calls 30 A c lv 5 path5 0 w hr hc path_val5).mono fun e w' ⟨v, he, hr, hb⟩ => ⟨⟨v, he, hr⟩, hb⟩
 · exact (cartoucheref03_Path.calls 30 A c lv 6 path6 0 w hr hc path_val6).mono fun e w' ⟨v, he, hr, hb⟩ => ⟨⟨v, he, hr⟩, hb⟩
 · exact (cartoucheref03_Path.calls 30 A c lv 7 path7 0 w hr hc path_val7).mono fun e w' ⟨v, he, hr, hb⟩ => ⟨⟨v, he, hr⟩, hb⟩
end Go.Proofs.YtjlpjpjodhkpdaaGreatDoor
