/- Contracts of Go's library at this program's functions. -/
import Derived.Shelf.SlMaps.Clone
import Derived.Shelf.SlicesE.Clone
import Derived.Shelf.SlicesQ.Contains
import Derived.Test.YtfmphfidloobkaaGreatDoorProg
namespace Go.Proofs
open Go.Shelf
def Tryz.cloneWr_ren : Go.Shelf.Ren := ⟨fun | 5 => 81 | 7 => 119 | n => n, fun | 23 => 92 | 25 => 74 | 3 => 79 | 4 => 4 | 20 => 20 | n => n, fun | n => n⟩
theorem Tryz.cloneWr : Go.Proofs.SlLaysW.n5 Tryz.prog Tryz.cloneWr_ren := {
  mixed := by kernel_rfl
  f5 := ⟨Tryz.f81.name, by decide, Tryz.func81.trans (congrArg some (by kernel_rfl))⟩
  f7 := Tryz.func119.trans (congrArg some (by kernel_rfl))
  t4 := Tryz.underlying4
  a4 := Tryz.isAgg4
  z4 := Tryz.sizeOf4
  v4 := Tryz.zeroValue4
  t20 := Tryz.underlying20
  a20 := Tryz.isAgg20
  z20 := Tryz.sizeOf20
  v20 := Tryz.zeroValue20
  t23 := Tryz.underlying92
  a23 := Tryz.isAgg92
  z23 := Tryz.sizeOf92
  v23 := Tryz.zeroValue92 }
def Tryz.cloneG_ren : Go.Shelf.Ren := ⟨fun | 5 => 82 | 7 => 119 | n => n, fun | 23 => 93 | 25 => 74 | 3 => 4 | 4 => 4 | 20 => 20 | n => n, fun | n => n⟩
theorem Tryz.cloneG : Go.Proofs.SlLaysW.n5 Tryz.prog Tryz.cloneG_ren := {
  mixed := by kernel_rfl
  f5 := ⟨Tryz.f82.name, by decide, Tryz.func82.trans (congrArg some (by kernel_rfl))⟩
  f7 := Tryz.func119.trans (congrArg some (by kernel_rfl))
  t4 := Tryz.underlying4
  a4 := Tryz.isAgg4
  z4 := Tryz.sizeOf4
  v4 := Tryz.zeroValue4
  t20 := Tryz.underlying20
  a20 := Tryz.isAgg20
  z20 := Tryz.sizeOf20
  v20 := Tryz.zeroValue20
  t23 := Tryz.underlying93
  a23 := Tryz.isAgg93
  z23 := Tryz.sizeOf93
  v23 := Tryz.zeroValue93 }
def Tryz.cloneP_ren : Go.Shelf.Ren := ⟨fun | 41 => 83 | n => n, fun | 22 => 94 | 23 => 102 | 4 => 4 | n => n, fun | n => n⟩
theorem Tryz.cloneP : Go.Proofs.SlLaysE0.n41 Tryz.prog Tryz.cloneP_ren := {
  mixed := by kernel_rfl
  f41 := ⟨Tryz.f83.name, by decide, Tryz.func83.trans (congrArg some (by kernel_rfl))⟩
  t4 := Tryz.underlying4
  a4 := Tryz.isAgg4
  z4 := Tryz.sizeOf4
  v4 := Tryz.zeroValue4
  t22 := Tryz.underlying94
  a22 := Tryz.isAgg94
  z22 := Tryz.sizeOf94
  v22 := Tryz.zeroValue94 }
def Tryz.hasP_ren : Go.Shelf.Ren := ⟨fun | 7 => 78 | 6 => 115 | n => n, fun | 22 => 94 | 24 => 102 | 4 => 4 | 0 => 0 | 3 => 3 | n => n, fun | n => n⟩
theorem Tryz.hasP : Go.Proofs.SlLaysQ.n7 Tryz.prog Tryz.hasP_ren := {
  mixed := by kernel_rfl
  f6 := ⟨Tryz.f115.name, by decide, Tryz.func115.trans (congrArg some (by kernel_rfl))⟩
  f7 := ⟨Tryz.f78.name, by decide, Tryz.func78.trans (congrArg some (by kernel_rfl))⟩
  t0 := Tryz.underlying0
  a0 := Tryz.isAgg0
  z0 := Tryz.sizeOf0
  v0 := Tryz.zeroValue0
  t3 := Tryz.underlying3
  a3 := Tryz.isAgg3
  z3 := Tryz.sizeOf3
  v3 := Tryz.zeroValue3
  t4 := Tryz.underlying4
  a4 := Tryz.isAgg4
  z4 := Tryz.sizeOf4
  v4 := Tryz.zeroValue4
  t22 := Tryz.underlying94
  a22 := Tryz.isAgg94
  z22 := Tryz.sizeOf94
  v22 := Tryz.zeroValue94 }
end Go.Proofs
