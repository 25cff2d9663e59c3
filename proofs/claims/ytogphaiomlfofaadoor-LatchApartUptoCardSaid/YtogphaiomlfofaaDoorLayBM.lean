/- The library's contracts on the keys of a map[int]bool and on sorting, laid at this program's numbers. Conditions: none. -/
import Derived.Shelf.SlIter.Nil
import Derived.Shelf.SlIterI.Nil
import Derived.Shelf.SortM.Plain
import Derived.Shelf.SortM.SortNone
import Derived.Ground.GgzProg
import Derived.Ground.SlgmProg
import Derived.Test.YtogphaiomlfofaaDoorProg
set_option linter.unusedVariables false
set_option linter.unusedSimpArgs false
namespace Go.Proofs.YtogphaiomlfofaaDoor
open Go.Shelf
def keys97_ren : Go.Shelf.Ren := ⟨fun | 7 => 35 | 10 => 44 | n => n, fun | 23 => 86 | 26 => 3 | 3 => 4 | 28 => 94 | 0 => 0 | 27 => 93 | 33 => 45 | 4 => 4 | n => n, fun | n => n⟩
theorem keys97 : SlLaysZI.n7 Tryd.prog keys97_ren := {
  mixed := by kernel_rfl
  f7 := ⟨Tryd.f35.name, by decide, Tryd.func35.trans (congrArg some (by kernel_rfl))⟩
  f10 := ⟨Tryd.f44.name, by decide, Tryd.func44.trans (congrArg some (by kernel_rfl))⟩
  t0 := Tryd.underlying0
  a0 := Tryd.isAgg0
  z0 := Tryd.sizeOf0
  v0 := Tryd.zeroValue0
  t4 := Tryd.underlying4
  a4 := Tryd.isAgg4
  z4 := Tryd.sizeOf4
  v4 := Tryd.zeroValue4
  t23 := Tryd.underlying86
  a23 := Tryd.isAgg86
  z23 := Tryd.sizeOf86
  v23 := Tryd.zeroValue86
  t26 := Tryd.underlying3
  a26 := Tryd.isAgg3
  z26 := Tryd.sizeOf3
  v26 := Tryd.zeroValue3
  t27 := Tryd.underlying93
  a27 := Tryd.isAgg93
  z27 := Tryd.sizeOf93
  v27 := Tryd.zeroValue93
  t28 := Tryd.underlying94
  a28 := Tryd.isAgg94
  z28 := Tryd.sizeOf94
  v28 := Tryd.zeroValue94
  t33 := Tryd.underlying45
  a33 := Tryd.isAgg45
  z33 := Tryd.sizeOf45
  v33 := Tryd.zeroValue45 }
def sorted96_ren : Go.Shelf.Ren := ⟨fun | 6 => 34 | 8 => 42 | 9 => 43 | 11 => 47 | 13 => 49 | 12 => 48 | 23 => 64 | 24 => 65 | 14 => 55 | 15 => 56 | 16 => 57 | 17 => 58 | 18 => 59 | 19 => 60 | 20 => 61 | 21 => 62 | 22 => 63 | 25 => 67 | 26 => 68 | 27 => 69 | 28 => 70 | 29 => 71 | 30 => 72 | 31 => 73 | n => n, fun | 26 => 3 | 28 => 94 | 24 => 22 | 0 => 0 | 3 => 3 | 37 => 108 | 48 => 126 | 50 => 128 | 4 => 4 | 40 => 119 | 39 => 118 | 45 => 102 | 5 => 5 | 9 => 9 | 51 => 130 | 55 => 134 | 57 => 136 | 58 => 137 | 33 => 45 | n => n, fun | n => n⟩
theorem sorted96 : SlLaysZI.n6 Tryd.prog sorted96_ren := {
  mixed := by kernel_rfl
  f6 := ⟨Tryd.f34.name, by decide, Tryd.func34.trans (congrArg some (by kernel_rfl))⟩
  f8 := ⟨Tryd.f42.name, by decide, Tryd.func42.trans (congrArg some (by kernel_rfl))⟩
  f11 := ⟨Tryd.f47.name, by decide, Tryd.func47.trans (congrArg some (by kernel_rfl))⟩
  t0 := Tryd.underlying0
  a0 := Tryd.isAgg0
  z0 := Tryd.sizeOf0
  v0 := Tryd.zeroValue0
  t24 := Tryd.underlying22
  a24 := Tryd.isAgg22
  z24 := Tryd.sizeOf22
  v24 := Tryd.zeroValue22
  t26 := Tryd.underlying3
  a26 := Tryd.isAgg3
  z26 := Tryd.sizeOf3
  v26 := Tryd.zeroValue3
  t28 := Tryd.underlying94
  a28 := Tryd.isAgg94
  z28 := Tryd.sizeOf94
  v28 := Tryd.zeroValue94
  i26 := by kernel_rfl }
def sort134_ren : Go.Shelf.Ren := ⟨fun | 5 => 43 | 8 => 49 | 7 => 48 | 19 => 64 | 20 => 65 | 10 => 55 | 11 => 56 | 12 => 57 | 13 => 58 | 14 => 59 | 15 => 60 | 16 => 61 | 17 => 62 | 18 => 63 | 30 => 67 | 31 => 68 | 32 => 69 | 33 => 70 | 34 => 71 | 35 => 72 | 40 => 73 | n => n, fun | 23 => 22 | 25 => 3 | 3 => 3 | 32 => 108 | 22 => 22 | 0 => 0 | 44 => 126 | 46 => 128 | 4 => 4 | 36 => 119 | 35 => 118 | 41 => 102 | 5 => 5 | 9 => 9 | 53 => 130 | 57 => 134 | 63 => 136 | 64 => 137 | n => n, fun | n => n⟩
theorem sort134 : SlLaysM.n5 Tryd.prog sort134_ren := {
  mixed := by kernel_rfl
  f5 := ⟨Tryd.f43.name, by decide, Tryd.func43.trans (congrArg some (by kernel_rfl))⟩
  f7 := ⟨Tryd.f48.name, by decide, Tryd.func48.trans (congrArg some (by kernel_rfl))⟩
  f8 := Tryd.func49.trans (congrArg some (by kernel_rfl))
  f10 := ⟨Tryd.f55.name, by decide, Tryd.func55.trans (congrArg some (by kernel_rfl))⟩
  f11 := ⟨Tryd.f56.name, by decide, Tryd.func56.trans (congrArg some (by kernel_rfl))⟩
  f12 := ⟨Tryd.f57.name, by decide, Tryd.func57.trans (congrArg some (by kernel_rfl))⟩
  f13 := ⟨Tryd.f58.name, by decide, Tryd.func58.trans (congrArg some (by kernel_rfl))⟩
  f14 := ⟨Tryd.f59.name, by decide, Tryd.func59.trans (congrArg some (by kernel_rfl))⟩
  f15 := ⟨Tryd.f60.name, by decide, Tryd.func60.trans (congrArg some (by kernel_rfl))⟩
  f16 := ⟨Tryd.f61.name, by decide, Tryd.func61.trans (congrArg some (by kernel_rfl))⟩
  f17 := ⟨Tryd.f62.name, by decide, Tryd.func62.trans (congrArg some (by kernel_rfl))⟩
  f18 := ⟨Tryd.f63.name, by decide, Tryd.func63.trans (congrArg some (by kernel_rfl))⟩
  f19 := Tryd.func64.trans (congrArg some (by kernel_rfl))
  f20 := Tryd.func65.trans (congrArg some (by kernel_rfl))
  f30 := ⟨Tryd.f67.name, by decide, Tryd.func67.trans (congrArg some (by kernel_rfl))⟩
  f31 := Tryd.func68.trans (congrArg some (by kernel_rfl))
  f32 := Tryd.func69.trans (congrArg some (by kernel_rfl))
  f33 := ⟨Tryd.f70.name, by decide, Tryd.func70.trans (congrArg some (by kernel_rfl))⟩
  f34 := ⟨Tryd.f71.name, by decide, Tryd.func71.trans (congrArg some (by kernel_rfl))⟩
  f35 := ⟨Tryd.f72.name, by decide, Tryd.func72.trans (congrArg some (by kernel_rfl))⟩
  f40 := ⟨Tryd.f73.name, by decide, Tryd.func73.trans (congrArg some (by kernel_rfl))⟩
  t0 := Tryd.underlying0
  a0 := Tryd.isAgg0
  z0 := Tryd.sizeOf0
  v0 := Tryd.zeroValue0
  t3 := Tryd.underlying3
  a3 := Tryd.isAgg3
  z3 := Tryd.sizeOf3
  v3 := Tryd.zeroValue3
  t4 := Tryd.underlying4
  a4 := Tryd.isAgg4
  z4 := Tryd.sizeOf4
  v4 := Tryd.zeroValue4
  t5 := Tryd.underlying5
  a5 := Tryd.isAgg5
  z5 := Tryd.sizeOf5
  v5 := Tryd.zeroValue5
  t9 := Tryd.underlying9
  a9 := Tryd.isAgg9
  z9 := Tryd.sizeOf9
  v9 := Tryd.zeroValue9
  t22 := Tryd.underlying22
  a22 := Tryd.isAgg22
  z22 := Tryd.sizeOf22
  v22 := Tryd.zeroValue22
  t23 := Tryd.underlying22
  a23 := Tryd.isAgg22
  z23 := Tryd.sizeOf22
  v23 := Tryd.zeroValue22
  t25 := Tryd.underlying3
  a25 := Tryd.isAgg3
  z25 := Tryd.sizeOf3
  v25 := Tryd.zeroValue3
  t32 := Tryd.underlying108
  a32 := Tryd.isAgg108
  z32 := Tryd.sizeOf108
  v32 := Tryd.zeroValue108
  t35 := Tryd.underlying118
  a35 := Tryd.isAgg118
  z35 := Tryd.sizeOf118
  v35 := Tryd.zeroValue118
  t36 := Tryd.underlying119
  a36 := Tryd.isAgg119
  z36 := Tryd.sizeOf119
  v36 := Tryd.zeroValue119
  t41 := Tryd.underlying102
  a41 := Tryd.isAgg102
  z41 := Tryd.sizeOf102
  v41 := Tryd.zeroValue102
  t44 := Tryd.underlying126
  a44 := Tryd.isAgg126
  z44 := Tryd.sizeOf126
  v44 := Tryd.zeroValue126
  t46 := Tryd.underlying128
  a46 := Tryd.isAgg128
  z46 := Tryd.sizeOf128
  v46 := Tryd.zeroValue128
  t53 := Tryd.underlying130
  a53 := Tryd.isAgg130
  z53 := Tryd.sizeOf130
  v53 := Tryd.zeroValue130
  t57 := Tryd.underlying134
  a57 := Tryd.isAgg134
  z57 := Tryd.sizeOf134
  v57 := Tryd.zeroValue134
  t63 := Tryd.underlying136
  a63 := Tryd.isAgg136
  z63 := Tryd.sizeOf136
  v63 := Tryd.zeroValue136
  t64 := Tryd.underlying137
  a64 := Tryd.isAgg137
  z64 := Tryd.sizeOf137
  v64 := Tryd.zeroValue137 }
end Go.Proofs.YtogphaiomlfofaaDoor
