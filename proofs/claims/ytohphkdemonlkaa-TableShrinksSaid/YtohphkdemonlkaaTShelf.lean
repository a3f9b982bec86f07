/- The shelf's contracts of slices.Clone and slices.IndexFunc at this seat's numbers (fields), as the shelf's own tool lays them. -/
import Derived.Shelf.SlicesE.Clone
import Derived.Shelf.SlicesQ.IndexFunc
import Derived.Test.YtohphkdemonlkaaProg
namespace Go.Proofs
open Go.Shelf
def Try.laysSlE041_f72_ren : Go.Shelf.Ren := ⟨fun | 41 => 72 | n => n, fun | 22 => 50 | 23 => 54 | 4 => 4 | n => n, fun | n => n⟩
theorem Try.laysSlE041_f72 : Go.Proofs.SlLaysE0.n41 Try.prog Try.laysSlE041_f72_ren := {
  mixed := by kernel_rfl
  f41 := ⟨Try.f72.name, by decide, Try.func72.trans (congrArg some (by kernel_rfl))⟩
  t4 := Try.underlying4
  a4 := Try.isAgg4
  z4 := Try.sizeOf4
  v4 := Try.zeroValue4
  t22 := Try.underlying50
  a22 := Try.isAgg50
  z22 := Try.sizeOf50
  v22 := Try.zeroValue50 }
def Try.laysSlH06_f75_ren : Go.Shelf.Ren := ⟨fun | 6 => 75 | n => n, fun | 0 => 0 | 3 => 3 | 4 => 4 | 22 => 50 | 23 => 54 | 25 => 65 | n => n, fun | n => n⟩
theorem Try.laysSlH06_f75 : Go.Proofs.SlLaysH0.n6 Try.prog Try.laysSlH06_f75_ren := {
  mixed := by kernel_rfl
  f6 := ⟨Try.f75.name, by decide, Try.func75.trans (congrArg some (by kernel_rfl))⟩
  t0 := Try.underlying0
  a0 := Try.isAgg0
  z0 := Try.sizeOf0
  v0 := Try.zeroValue0
  t3 := Try.underlying3
  a3 := Try.isAgg3
  z3 := Try.sizeOf3
  v3 := Try.zeroValue3
  t4 := Try.underlying4
  a4 := Try.isAgg4
  z4 := Try.sizeOf4
  v4 := Try.zeroValue4
  t22 := Try.underlying50
  a22 := Try.isAgg50
  z22 := Try.sizeOf50
  v22 := Try.zeroValue50
  t25 := Try.underlying65
  a25 := Try.isAgg65
  z25 := Try.sizeOf65
  v25 := Try.zeroValue65 }
end Go.Proofs
