/- The library's functions at this program: laid off the shelf, in plain words. No condition. -/
import Derived.Shelf.Small.Strs
import Derived.Test.YthigjlahanejjaaProg
namespace Go.Proofs.Ythigjlahanejjaa.Shelf
open Go.Shelf
def lays106_ren : Go.Shelf.Ren := ⟨fun | 106 => 45 | 213 => 55 | 265 => 59 | n => n, fun | 9 => 9 | 3 => 3 | n => n, fun | n => n⟩
theorem lays106 : Go.Proofs.Lays.n106 Try.prog lays106_ren := {
  mixed := by kernel_rfl
  f106 := Try.func45.trans (congrArg some (by kernel_rfl))
  f213 := Try.func55.trans (congrArg some (by kernel_rfl))
  f265 := Try.func59.trans (congrArg some (by kernel_rfl))
  t3 := Try.underlying3
  a3 := Try.isAgg3
  z3 := Try.sizeOf3
  v3 := Try.zeroValue3
  t9 := Try.underlying9
  a9 := Try.isAgg9
  z9 := Try.sizeOf9
  v9 := Try.zeroValue9 }
end Go.Proofs.Ythigjlahanejjaa.Shelf
