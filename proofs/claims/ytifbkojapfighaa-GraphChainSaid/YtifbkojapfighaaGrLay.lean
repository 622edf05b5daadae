/- slices.Compact and slices.DeleteFunc of texts at this dump: contracts laid by the kit's tools. -/
import Derived.Shelf.SlicesG.CompactS
import Derived.Shelf.SlicesE.DeleteFunc
import Derived.Sort.OwnSorted
import Derived.Ground.SlgnProg
import Derived.Ground.SlgfProg
import Derived.Test.YtifbkojapfighaaProg
namespace Go.Proofs
open Go.RowKit Go.Maps Go.Sort Go.Shelf
def Try.compact63_ren : Go.Shelf.Ren := ⟨fun | 44 => 63 | n => n, fun | 25 => 23 | 26 => 9 | 3 => 3 | 4 => 4 | 0 => 0 | n => n, fun | n => n⟩
theorem Try.compact63 : Go.Proofs.SlLaysN.n44 Try.prog Try.compact63_ren := {
  mixed := by kernel_rfl
  f44 := ⟨Try.f63.name, by decide, Try.func63.trans (congrArg some (by kernel_rfl))⟩
  t0 := Try.underlying0
  a0 := Try.isAgg0
  z0 := Try.sizeOf0
  v0 := Try.zeroValue0
  t3 := Try.underlying3
  a3 := Try.isAgg3
  z3 := Try.sizeOf3
  v3 := Try.zeroValue3
  t4 := Try.underlying4
  a4 := Try.isAgg4
  z4 := Try.sizeOf4
  v4 := Try.zeroValue4
  t25 := Try.underlying23
  a25 := Try.isAgg23
  z25 := Try.sizeOf23
  v25 := Try.zeroValue23
  t26 := Try.underlying9
  a26 := Try.isAgg9
  z26 := Try.sizeOf9
  v26 := Try.zeroValue9
  i26 := by kernel_rfl }
def Try.delete47_ren : Go.Shelf.Ren := ⟨fun | 10 => 47 | 6 => 62 | n => n, fun | 22 => 23 | 23 => 9 | 25 => 87 | 3 => 3 | 4 => 4 | 0 => 0 | n => n, fun | n => n⟩
theorem Try.delete47 : Go.Proofs.SlLaysH.n10 Try.prog Try.delete47_ren := {
  mixed := by kernel_rfl
  f6 := ⟨Try.f62.name, by decide, Try.func62.trans (congrArg some (by kernel_rfl))⟩
  f10 := ⟨Try.f47.name, by decide, Try.func47.trans (congrArg some (by kernel_rfl))⟩
  t0 := Try.underlying0
  a0 := Try.isAgg0
  z0 := Try.sizeOf0
  v0 := Try.zeroValue0
  t3 := Try.underlying3
  a3 := Try.isAgg3
  z3 := Try.sizeOf3
  v3 := Try.zeroValue3
  t4 := Try.underlying4
  a4 := Try.isAgg4
  z4 := Try.sizeOf4
  v4 := Try.zeroValue4
  t22 := Try.underlying23
  a22 := Try.isAgg23
  z22 := Try.sizeOf23
  v22 := Try.zeroValue23
  a23 := Try.isAgg9
  z23 := Try.sizeOf9
  t25 := Try.underlying87
  a25 := Try.isAgg87
  z25 := Try.sizeOf87
  v25 := Try.zeroValue87 }
end Go.Proofs
