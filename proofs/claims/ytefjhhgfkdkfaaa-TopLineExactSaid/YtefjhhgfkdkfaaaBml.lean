/- The library contracts of math/bits that this seat uses, laid at its program (written by the kit's plain mode). -/
import Derived.Shelf.Small.Bits
import Derived.Shelf.Bits.Mul64
import Derived.Test.YtefjhhgfkdkfaaaProg
namespace Go.Proofs
open Go.Shelf
def Try.lays264_ren : Go.Shelf.Ren := ⟨fun | 264 => 120 | n => n, fun | 53 => 174 | 46 => 149 | n => n, fun | n => n⟩
theorem Try.lays264 : Go.Proofs.Lays.n264 Try.prog Try.lays264_ren := {
  mixed := by kernel_rfl
  f264 := Try.func120.trans (congrArg some (by kernel_rfl))
  t46 := Try.underlying149
  a46 := Try.isAgg149
  z46 := Try.sizeOf149
  v46 := Try.zeroValue149
  t53 := Try.underlying174
  a53 := Try.isAgg174
  z53 := Try.sizeOf174
  v53 := Try.zeroValue174 }
open Go.RowKit Go.Lib in
theorem Try.bits_Mul64 (x y : Nat) (hx : x < 18446744073709551616) (hy : y < 18446744073709551616) (w : World) :
    Calls Try.prog 120 #[.int .u64 x, .int .u64 y] w fun e w' => e = .returned (.tuple #[.int .u64 ((x * y / 18446744073709551616 : Nat) : Int), .int .u64 ((x * y % 18446744073709551616 : Nat) : Int)]) ∧ w' = w := Any.bits_Mul64 Try.lays264 x y hx hy w
def Try.lays212_ren : Go.Shelf.Ren := ⟨fun | 212 => 89 | 263 => 119 | 264 => 120 | n => n, fun | 46 => 149 | 51 => 171 | 146 => 172 | 53 => 174 | 148 => 175 | n => n, fun | n => n⟩
theorem Try.lays212 : Go.Proofs.Lays.n212 Try.prog Try.lays212_ren := {
  mixed := by kernel_rfl
  f212 := Try.func89.trans (congrArg some (by kernel_rfl))
  f263 := Try.func119.trans (congrArg some (by kernel_rfl))
  f264 := Try.func120.trans (congrArg some (by kernel_rfl))
  t46 := Try.underlying149
  a46 := Try.isAgg149
  z46 := Try.sizeOf149
  v46 := Try.zeroValue149
  t51 := Try.underlying171
  a51 := Try.isAgg171
  z51 := Try.sizeOf171
  v51 := Try.zeroValue171
  t53 := Try.underlying174
  a53 := Try.isAgg174
  z53 := Try.sizeOf174
  v53 := Try.zeroValue174
  t146 := Try.underlying172
  a146 := Try.isAgg172
  z146 := Try.sizeOf172
  v146 := Try.zeroValue172
  t148 := Try.underlying175
  a148 := Try.isAgg175
  z148 := Try.sizeOf175
  v148 := Try.zeroValue175 }
open Go.RowKit Go.Lib in
/-- math/bits.Mul: "Mul returns the full-width product of x and y": on a machine of 64 bits: Mul64's. (LAID: no walk: one application.) -/
theorem Try.bits_Mul (x y : Nat) (hx : x < 18446744073709551616) (hy : y < 18446744073709551616) (w : World) :
    Calls Try.prog 89 #[.int .u64 x, .int .u64 y] w fun e w' => e = .returned (.tuple #[.int .u64 ((x * y / 18446744073709551616 : Nat) : Int), .int .u64 ((x * y % 18446744073709551616 : Nat) : Int)]) ∧ w' = w := Any.bits_Mul Try.lays212 x y hx hy w
end Go.Proofs
