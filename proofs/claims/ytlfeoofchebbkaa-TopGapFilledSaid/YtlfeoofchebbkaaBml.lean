/- The library contracts of math/bits that this seat uses, laid at its program (written by the kit's plain mode). -/
import Derived.Shelf.Small.Bits
import Derived.Shelf.Bits.Mul64
import Derived.Test.YtlfeoofchebbkaaProg
namespace Go.Proofs
open Go.Shelf
def Try.lays264_ren : Go.Shelf.Ren := ⟨fun | 264 => 148 | n => n, fun | 53 => 162 | 46 => 153 | n => n, fun | n => n⟩
theorem Try.lays264 : Go.Proofs.Lays.n264 Try.prog Try.lays264_ren := {
  mixed := by kernel_rfl
  f264 := Try.func148.trans (congrArg some (by kernel_rfl))
  t46 := Try.underlying153
  a46 := Try.isAgg153
  z46 := Try.sizeOf153
  v46 := Try.zeroValue153
  t53 := Try.underlying162
  a53 := Try.isAgg162
  z53 := Try.sizeOf162
  v53 := Try.zeroValue162 }
open Go.RowKit Go.Lib in
theorem Try.bits_Mul64 (x y : Nat) (hx : x < 18446744073709551616) (hy : y < 18446744073709551616) (w : World) :
    Calls Try.prog 148 #[.int .u64 x, .int .u64 y] w fun e w' => e = .returned (.tuple #[.int .u64 ((x * y / 18446744073709551616 : Nat) : Int), .int .u64 ((x * y % 18446744073709551616 : Nat) : Int)]) ∧ w' = w := Any.bits_Mul64 Try.lays264 x y hx hy w
def Try.lays212_ren : Go.Shelf.Ren := ⟨fun | 212 => 139 | 263 => 147 | 264 => 148 | n => n, fun | 46 => 153 | 51 => 159 | 146 => 160 | 53 => 162 | 148 => 163 | n => n, fun | n => n⟩
theorem Try.lays212 : Go.Proofs.Lays.n212 Try.prog Try.lays212_ren := {
  mixed := by kernel_rfl
  f212 := Try.func139.trans (congrArg some (by kernel_rfl))
  f263 := Try.func147.trans (congrArg some (by kernel_rfl))
  f264 := Try.func148.trans (congrArg some (by kernel_rfl))
  t46 := Try.underlying153
  a46 := Try.isAgg153
  z46 := Try.sizeOf153
  v46 := Try.zeroValue153
  t51 := Try.underlying159
  a51 := Try.isAgg159
  z51 := Try.sizeOf159
  v51 := Try.zeroValue159
  t53 := Try.underlying162
  a53 := Try.isAgg162
  z53 := Try.sizeOf162
  v53 := Try.zeroValue162
  t146 := Try.underlying160
  a146 := Try.isAgg160
  z146 := Try.sizeOf160
  v146 := Try.zeroValue160
  t148 := Try.underlying163
  a148 := Try.isAgg163
  z148 := Try.sizeOf163
  v148 := Try.zeroValue163 }
open Go.RowKit Go.Lib in
/-- math/bits.Mul: "Mul returns the full-width product of x and y": on a machine of 64 bits: Mul64's. (LAID: no walk: one application.) -/
theorem Try.bits_Mul (x y : Nat) (hx : x < 18446744073709551616) (hy : y < 18446744073709551616) (w : World) :
    Calls Try.prog 139 #[.int .u64 x, .int .u64 y] w fun e w' => e = .returned (.tuple #[.int .u64 ((x * y / 18446744073709551616 : Nat) : Int), .int .u64 ((x * y % 18446744073709551616 : Nat) : Int)]) ∧ w' = w := Any.bits_Mul Try.lays212 x y hx hy w
end Go.Proofs
