/- Contracts of Go's library, laid at this program by the kit's tool. No condition. -/
import Derived.Shelf.SlMaps.Clone
import Derived.Ground.SlmcProg
import Derived.Test.YtlicmhgpldmliaaProg
namespace Go.Proofs
open Go.Shelf
def Try.cloneB_ren : Go.Shelf.Ren := ⟨fun | 5 => 37 | 7 => 61 | n => n, fun | 23 => 98 | 25 => 9 | 3 => 97 | 4 => 4 | 20 => 20 | n => n, fun | n => n⟩
theorem Try.cloneB : Go.Proofs.SlLaysW.n5 Try.prog Try.cloneB_ren := {
  mixed := by kernel_rfl
  f5 := ⟨Try.f37.name, by decide, Try.func37.trans (congrArg some (by kernel_rfl))⟩
  f7 := Try.func61.trans (congrArg some (by kernel_rfl))
  t4 := Try.underlying4
  a4 := Try.isAgg4
  z4 := Try.sizeOf4
  v4 := Try.zeroValue4
  t20 := Try.underlying20
  a20 := Try.isAgg20
  z20 := Try.sizeOf20
  v20 := Try.zeroValue20
  t23 := Try.underlying98
  a23 := Try.isAgg98
  z23 := Try.sizeOf98
  v23 := Try.zeroValue98 }
end Go.Proofs
