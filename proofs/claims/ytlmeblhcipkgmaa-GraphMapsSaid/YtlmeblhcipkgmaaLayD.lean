/- The library's contract on deleting, laid at this program's numbers. Conditions: none. -/
import Derived.Shelf.Slices.Delete
import Derived.Ground.Names2Prog
import Derived.Test.YtlmeblhcipkgmaaProg
namespace Go.Proofs.Ytlmeblhcipkgmaa
open Go.Shelf
def del_ren : Go.Shelf.Ren := ⟨fun | 23 => 90 | n => n, fun | 22 => 23 | 3 => 3 | 4 => 4 | 0 => 0 | n => n, fun | n => n⟩
theorem del23 : Go.Proofs.Lays2.n23 Try.prog del_ren := {
  mixed := by kernel_rfl
  f23 := Try.func90.trans (congrArg some (by kernel_rfl))
  t0 := Try.underlying0
  a0 := Try.isAgg0
  z0 := Try.sizeOf0
  v0 := Try.zeroValue0
  t3 := Try.underlying3
  a3 := Try.isAgg3
  z3 := Try.sizeOf3
  v3 := Try.zeroValue3
  t4 := Try.underlying4
  a4 := Try.isAgg4
  z4 := Try.sizeOf4
  v4 := Try.zeroValue4
  t22 := Try.underlying23
  a22 := Try.isAgg23
  z22 := Try.sizeOf23
  v22 := Try.zeroValue23
  i3 := by kernel_rfl }
end Go.Proofs.Ytlmeblhcipkgmaa
