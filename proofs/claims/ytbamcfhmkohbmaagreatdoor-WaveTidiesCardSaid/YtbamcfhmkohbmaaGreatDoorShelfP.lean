/-
  The library's contracts of generic functions, laid at this translation: the tables of numbers, each held against the bodies by the kernel.
-/
import Derived.Shelf.SlicesQ.Contains
import Derived.Test.YtbamcfhmkohbmaaGreatDoorProg
namespace Go.Proofs
open Go.Shelf
def Tryz.containsPt_ren : Go.Shelf.Ren := ⟨fun | 7 => 19 | 6 => 74 | n => n, fun | 22 => 22 | 24 => 33 | 4 => 4 | 0 => 0 | 3 => 3 | n => n, fun | n => n⟩
theorem Tryz.containsPt : Go.Proofs.SlLaysQ.n7 Tryz.prog Tryz.containsPt_ren := {
  mixed := by kernel_rfl
  f6 := ⟨Tryz.f74.name, by decide, Tryz.func74.trans (congrArg some (by kernel_rfl))⟩
  f7 := ⟨Tryz.f19.name, by decide, Tryz.func19.trans (congrArg some (by kernel_rfl))⟩
  t0 := Tryz.underlying0
  a0 := Tryz.isAgg0
  z0 := Tryz.sizeOf0
  v0 := Tryz.zeroValue0
  t3 := Tryz.underlying3
  a3 := Tryz.isAgg3
  z3 := Tryz.sizeOf3
  v3 := Tryz.zeroValue3
  t4 := Tryz.underlying4
  a4 := Tryz.isAgg4
  z4 := Tryz.sizeOf4
  v4 := Tryz.zeroValue4
  t22 := Tryz.underlying22
  a22 := Tryz.isAgg22
  z22 := Tryz.sizeOf22
  v22 := Tryz.zeroValue22 }
end Go.Proofs
