/- PLAIN WORDS FOR BLAKE2s: rotations, half a mixing; the walks of bits.RotateLeft32, half, turn, figure. -/
import Derived.Test.YtocfaglcaefnoaaDoorProg
import Derived.WalkKit
import Derived.WalkSpells
import Derived.WalkLawsBesides
import Derived.Outline
namespace Go.Proofs.YtocfaglcaefnoaaDoor
open Go.RowKit

/-- x turned right: a = 2^n, b = 2^(32-n). -/
def ror (a b x : Int) : Int := bits .or .u32 (x / a) (x * b % 4294967296)
theorem bits_or_comm (x y : Int) : bits .or .u32 x y = bits .or .u32 y x := by
  simp only [bits, BitVec.or_comm]
def r16 (x : Int) : Int := ror 65536 65536 x
def r12 (x : Int) : Int := ror 4096 1048576 x
def r8 (x : Int) : Int := ror 256 16777216 x
def r7 (x : Int) : Int := ror 128 33554432 x
def xr (x y : Int) : Int := bits .xor .u32 x y

section rot
set_option maxHeartbeats 400000
theorem rot16 (x : Int) (w : World) :
    Calls Tryd.prog 34 #[.int .u32 x, .int .i64 (-16)] w fun e w' => e = .returned (.int .u32 (r16 x)) ∧ w = w' := by
  have hs : bits .and .u64 (IntKind.u64.wrap (-16)) 31 = 16 := by decide +kernel
  go_enter Tryd.func34, Tryd.ntmps34
  go_wp2
  go_ret
  exact ⟨by rw [r16, ror, bits_or_comm]; rfl, rfl⟩
theorem rot12 (x : Int) (w : World) :
    Calls Tryd.prog 34 #[.int .u32 x, .int .i64 (-12)] w fun e w' => e = .returned (.int .u32 (r12 x)) ∧ w = w' := by
  have hs : bits .and .u64 (IntKind.u64.wrap (-12)) 31 = 20 := by decide +kernel
  go_enter Tryd.func34, Tryd.ntmps34
  go_wp2
  go_ret
  exact ⟨by rw [r12, ror, bits_or_comm]; rfl, rfl⟩
theorem rot8 (x : Int) (w : World) :
    Calls Tryd.prog 34 #[.int .u32 x, .int .i64 (-8)] w fun e w' => e = .returned (.int .u32 (r8 x)) ∧ w = w' := by
  have hs : bits .and .u64 (IntKind.u64.wrap (-8)) 31 = 24 := by decide +kernel
  go_enter Tryd.func34, Tryd.ntmps34
  go_wp2
  go_ret
  exact ⟨by rw [r8, ror, bits_or_comm]; rfl, rfl⟩
theorem rot7 (x : Int) (w : World) :
    Calls Tryd.prog 34 #[.int .u32 x, .int .i64 (-7)] w fun e w' => e = .returned (.int .u32 (r7 x)) ∧ w = w' := by
  have hs : bits .and .u64 (IntKind.u64.wrap (-7)) 31 = 25 := by decide +kernel
  go_enter Tryd.func34, Tryd.ntmps34
  go_wp2
  go_ret
  exact ⟨by rw [r7, ror, bits_or_comm]; rfl, rfl⟩
end rot

/-- Half a mixing: the four words. -/
def hA (a b x : Int) : Int := (a + (b + x)) % 4294967296
def hD (R : Int → Int) (a b d x : Int) : Int := R (xr d (hA a b x))
def hC (R : Int → Int) (a b c d x : Int) : Int := (c + hD R a b d x) % 4294967296
def hB (R S : Int → Int) (a b c d x : Int) : Int := S (xr b (hC R a b c d x))

set_option maxHeartbeats 400000 in
theorem half1 (a b c d x : Int) (w : World) :
    Calls Tryd.prog 24 #[.int .u32 a, .int .u32 b, .int .u32 c, .int .u32 d, .int .u32 x, .int .i64 16, .int .i64 12] w fun e w' =>
      e = .returned (.tuple #[.int .u32 (hA a b x), .int .u32 (hB r16 r12 a b c d x), .int .u32 (hC r16 a b c d x), .int .u32 (hD r16 a b d x)]) ∧ w = w' := by
  go_enter Tryd.func24, Tryd.ntmps24
  go_wp2_with fail
  refine (rot16 _ _).mono ?_
  rintro e w' ⟨rfl, rfl⟩
  go_wp2_with fail
  refine (rot12 _ _).mono ?_
  rintro e w' ⟨rfl, rfl⟩
  go_wp2_with fail
  refine bodyPost_ret (v := .tuple #[.int .u32 (hA a b x), .int .u32 (hB r16 r12 a b c d x), .int .u32 (hC r16 a b c d x), .int .u32 (hD r16 a b d x)]) (by simp [results, Tryd.results24, go_sem, hA, hB, hC, hD, xr]) rfl ⟨rfl, rfl⟩
set_option maxHeartbeats 400000 in
theorem half2 (a b c d x : Int) (w : World) :
    Calls Tryd.prog 24 #[.int .u32 a, .int .u32 b, .int .u32 c, .int .u32 d, .int .u32 x, .int .i64 8, .int .i64 7] w fun e w' =>
      e = .returned (.tuple #[.int .u32 (hA a b x), .int .u32 (hB r8 r7 a b c d x), .int .u32 (hC r8 a b c d x), .int .u32 (hD r8 a b d x)]) ∧ w = w' := by
  go_enter Tryd.func24, Tryd.ntmps24
  go_wp2_with fail
  refine (rot8 _ _).mono ?_
  rintro e w' ⟨rfl, rfl⟩
  go_wp2_with fail
  refine (rot7 _ _).mono ?_
  rintro e w' ⟨rfl, rfl⟩
  go_wp2_with fail
  refine bodyPost_ret (v := .tuple #[.int .u32 (hA a b x), .int .u32 (hB r8 r7 a b c d x), .int .u32 (hC r8 a b c d x), .int .u32 (hD r8 a b d x)]) (by simp [results, Tryd.results24, go_sem, hA, hB, hC, hD, xr]) rfl ⟨rfl, rfl⟩

section turns
set_option maxHeartbeats 400000
theorem turn16 (x : Int) (w : World) :
    Calls Tryd.prog 35 #[.int .u32 x, .int .u32 16] w fun e w' => e = .returned (.int .u32 (r16 x)) ∧ w = w' := by
  go_enter Tryd.func35, Tryd.ntmps35
  go_wp2
  go_ret
  exact ⟨rfl, rfl⟩
theorem turn12 (x : Int) (w : World) :
    Calls Tryd.prog 35 #[.int .u32 x, .int .u32 12] w fun e w' => e = .returned (.int .u32 (r12 x)) ∧ w = w' := by
  go_enter Tryd.func35, Tryd.ntmps35
  go_wp2
  go_ret
  exact ⟨rfl, rfl⟩
theorem turn8 (x : Int) (w : World) :
    Calls Tryd.prog 35 #[.int .u32 x, .int .u32 8] w fun e w' => e = .returned (.int .u32 (r8 x)) ∧ w = w' := by
  go_enter Tryd.func35, Tryd.ntmps35
  go_wp2
  go_ret
  exact ⟨rfl, rfl⟩
theorem turn7 (x : Int) (w : World) :
    Calls Tryd.prog 35 #[.int .u32 x, .int .u32 7] w fun e w' => e = .returned (.int .u32 (r7 x)) ∧ w = w' := by
  go_enter Tryd.func35, Tryd.ntmps35
  go_wp2
  go_ret
  exact ⟨rfl, rfl⟩
end turns
end Go.Proofs.YtocfaglcaefnoaaDoor
