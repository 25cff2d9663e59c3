/- The library's contracts on the keys of a map[int]bool and on sorting, laid at this program's numbers. Conditions: none. -/
import Derived.Shelf.SlIter.Nil
import Derived.Shelf.SlIterI.Nil
import Derived.Shelf.SortM.Plain
import Derived.Shelf.SortM.SortNone
import Derived.Ground.GgzProg
import Derived.Ground.SlgmProg
import Derived.Test.YtogphaiomlfofaaGreatDoorProg
set_option linter.unusedVariables false
set_option linter.unusedSimpArgs false
namespace Go.Proofs.YtogphaiomlfofaaGreatDoor
open Go.Shelf
def keys97_ren : Go.Shelf.Ren := ⟨fun | 7 => 97 | 10 => 135 | n => n, fun | 23 => 168 | 26 => 3 | 3 => 4 | 28 => 174 | 0 => 0 | 27 => 173 | 33 => 52 | 4 => 4 | n => n, fun | n => n⟩
theorem keys97 : SlLaysZI.n7 Tryz.prog keys97_ren := {
  mixed := by kernel_rfl
  f7 := ⟨Tryz.f97.name, by decide, Tryz.func97.trans (congrArg some (by kernel_rfl))⟩
  f10 := ⟨Tryz.f135.name, by decide, Tryz.func135.trans (congrArg some (by kernel_rfl))⟩
  t0 := Tryz.underlying0
  a0 := Tryz.isAgg0
  z0 := Tryz.sizeOf0
  v0 := Tryz.zeroValue0
  t4 := Tryz.underlying4
  a4 := Tryz.isAgg4
  z4 := Tryz.sizeOf4
  v4 := Tryz.zeroValue4
  t23 := Tryz.underlying168
  a23 := Tryz.isAgg168
  z23 := Tryz.sizeOf168
  v23 := Tryz.zeroValue168
  t26 := Tryz.underlying3
  a26 := Tryz.isAgg3
  z26 := Tryz.sizeOf3
  v26 := Tryz.zeroValue3
  t27 := Tryz.underlying173
  a27 := Tryz.isAgg173
  z27 := Tryz.sizeOf173
  v27 := Tryz.zeroValue173
  t28 := Tryz.underlying174
  a28 := Tryz.isAgg174
  z28 := Tryz.sizeOf174
  v28 := Tryz.zeroValue174
  t33 := Tryz.underlying52
  a33 := Tryz.isAgg52
  z33 := Tryz.sizeOf52
  v33 := Tryz.zeroValue52 }
def sorted96_ren : Go.Shelf.Ren := ⟨fun | 6 => 96 | 8 => 133 | 9 => 134 | 11 => 171 | 13 => 173 | 12 => 172 | 23 => 211 | 24 => 212 | 14 => 202 | 15 => 203 | 16 => 204 | 17 => 205 | 18 => 206 | 19 => 207 | 20 => 208 | 21 => 209 | 22 => 210 | 25 => 230 | 26 => 231 | 27 => 232 | 28 => 233 | 29 => 234 | 30 => 235 | 31 => 238 | n => n, fun | 26 => 3 | 28 => 174 | 24 => 22 | 0 => 0 | 3 => 3 | 37 => 252 | 48 => 276 | 50 => 278 | 4 => 4 | 40 => 270 | 39 => 269 | 45 => 47 | 5 => 5 | 9 => 9 | 51 => 285 | 55 => 224 | 57 => 291 | 58 => 233 | 33 => 52 | n => n, fun | n => n⟩
theorem sorted96 : SlLaysZI.n6 Tryz.prog sorted96_ren := {
  mixed := by kernel_rfl
  f6 := ⟨Tryz.f96.name, by decide, Tryz.func96.trans (congrArg some (by kernel_rfl))⟩
  f8 := ⟨Tryz.f133.name, by decide, Tryz.func133.trans (congrArg some (by kernel_rfl))⟩
  f11 := ⟨Tryz.f171.name, by decide, Tryz.func171.trans (congrArg some (by kernel_rfl))⟩
  t0 := Tryz.underlying0
  a0 := Tryz.isAgg0
  z0 := Tryz.sizeOf0
  v0 := Tryz.zeroValue0
  t24 := Tryz.underlying22
  a24 := Tryz.isAgg22
  z24 := Tryz.sizeOf22
  v24 := Tryz.zeroValue22
  t26 := Tryz.underlying3
  a26 := Tryz.isAgg3
  z26 := Tryz.sizeOf3
  v26 := Tryz.zeroValue3
  t28 := Tryz.underlying174
  a28 := Tryz.isAgg174
  z28 := Tryz.sizeOf174
  v28 := Tryz.zeroValue174
  i26 := by kernel_rfl }
def sort134_ren : Go.Shelf.Ren := ⟨fun | 5 => 134 | 8 => 173 | 7 => 172 | 19 => 211 | 20 => 212 | 10 => 202 | 11 => 203 | 12 => 204 | 13 => 205 | 14 => 206 | 15 => 207 | 16 => 208 | 17 => 209 | 18 => 210 | 30 => 230 | 31 => 231 | 32 => 232 | 33 => 233 | 34 => 234 | 35 => 235 | 40 => 238 | n => n, fun | 23 => 22 | 25 => 3 | 3 => 3 | 32 => 252 | 22 => 22 | 0 => 0 | 44 => 276 | 46 => 278 | 4 => 4 | 36 => 270 | 35 => 269 | 41 => 47 | 5 => 5 | 9 => 9 | 53 => 285 | 57 => 224 | 63 => 291 | 64 => 233 | n => n, fun | n => n⟩
theorem sort134 : SlLaysM.n5 Tryz.prog sort134_ren := {
  mixed := by kernel_rfl
  f5 := ⟨Tryz.f134.name, by decide, Tryz.func134.trans (congrArg some (by kernel_rfl))⟩
  f7 := ⟨Tryz.f172.name, by decide, Tryz.func172.trans (congrArg some (by kernel_rfl))⟩
  f8 := Tryz.func173.trans (congrArg some (by kernel_rfl))
  f10 := ⟨Tryz.f202.name, by decide, Tryz.func202.trans (congrArg some (by kernel_rfl))⟩
  f11 := ⟨Tryz.f203.name, by decide, Tryz.func203.trans (congrArg some (by kernel_rfl))⟩
  f12 := ⟨Tryz.f204.name, by decide, Tryz.func204.trans (congrArg some (by kernel_rfl))⟩
  f13 := ⟨Tryz.f205.name, by decide, Tryz.func205.trans (congrArg some (by kernel_rfl))⟩
  f14 := ⟨Tryz.f206.name, by decide, Tryz.func206.trans (congrArg some (by kernel_rfl))⟩
  f15 := ⟨Tryz.f207.name, by decide, Tryz.func207.trans (congrArg some (by kernel_rfl))⟩
  f16 := ⟨Tryz.f208.name, by decide, Tryz.func208.trans (congrArg some (by kernel_rfl))⟩
  f17 := ⟨Tryz.f209.name, by decide, Tryz.func209.trans (congrArg some (by kernel_rfl))⟩
  f18 := ⟨Tryz.f210.name, by decide, Tryz.func210.trans (congrArg some (by kernel_rfl))⟩
  f19 := Tryz.func211.trans (congrArg some (by kernel_rfl))
  f20 := Tryz.func212.trans (congrArg some (by kernel_rfl))
  f30 := ⟨Tryz.f230.name, by decide, Tryz.func230.trans (congrArg some (by kernel_rfl))⟩
  f31 := Tryz.func231.trans (congrArg some (by kernel_rfl))
  f32 := Tryz.func232.trans (congrArg some (by kernel_rfl))
  f33 := ⟨Tryz.f233.name, by decide, Tryz.func233.trans (congrArg some (by kernel_rfl))⟩
  f34 := ⟨Tryz.f234.name, by decide, Tryz.func234.trans (congrArg some (by kernel_rfl))⟩
  f35 := ⟨Tryz.f235.name, by decide, Tryz.func235.trans (congrArg some (by kernel_rfl))⟩
  f40 := ⟨Tryz.f238.name, by decide, Tryz.func238.trans (congrArg some (by kernel_rfl))⟩
  t0 := Tryz.underlying0
  a0 := Tryz.isAgg0
  z0 := Tryz.sizeOf0
  v0 := Tryz.zeroValue0
  t3 := Tryz.underlying3
  a3 := Tryz.isAgg3
  z3 := Tryz.sizeOf3
  v3 := Tryz.zeroValue3
  t4 := Tryz.underlying4
  a4 := Tryz.isAgg4
  z4 := Tryz.sizeOf4
  v4 := Tryz.zeroValue4
  t5 := Tryz.underlying5
  a5 := Tryz.isAgg5
  z5 := Tryz.sizeOf5
  v5 := Tryz.zeroValue5
  t9 := Tryz.underlying9
  a9 := Tryz.isAgg9
  z9 := Tryz.sizeOf9
  v9 := Tryz.zeroValue9
  t22 := Tryz.underlying22
  a22 := Tryz.isAgg22
  z22 := Tryz.sizeOf22
  v22 := Tryz.zeroValue22
  t23 := Tryz.underlying22
  a23 := Tryz.isAgg22
  z23 := Tryz.sizeOf22
  v23 := Tryz.zeroValue22
  t25 := Tryz.underlying3
  a25 := Tryz.isAgg3
  z25 := Tryz.sizeOf3
  v25 := Tryz.zeroValue3
  t32 := Tryz.underlying252
  a32 := Tryz.isAgg252
  z32 := Tryz.sizeOf252
  v32 := Tryz.zeroValue252
  t35 := Tryz.underlying269
  a35 := Tryz.isAgg269
  z35 := Tryz.sizeOf269
  v35 := Tryz.zeroValue269
  t36 := Tryz.underlying270
  a36 := Tryz.isAgg270
  z36 := Tryz.sizeOf270
  v36 := Tryz.zeroValue270
  t41 := Tryz.underlying47
  a41 := Tryz.isAgg47
  z41 := Tryz.sizeOf47
  v41 := Tryz.zeroValue47
  t44 := Tryz.underlying276
  a44 := Tryz.isAgg276
  z44 := Tryz.sizeOf276
  v44 := Tryz.zeroValue276
  t46 := Tryz.underlying278
  a46 := Tryz.isAgg278
  z46 := Tryz.sizeOf278
  v46 := Tryz.zeroValue278
  t53 := Tryz.underlying285
  a53 := Tryz.isAgg285
  z53 := Tryz.sizeOf285
  v53 := Tryz.zeroValue285
  t57 := Tryz.underlying224
  a57 := Tryz.isAgg224
  z57 := Tryz.sizeOf224
  v57 := Tryz.zeroValue224
  t63 := Tryz.underlying291
  a63 := Tryz.isAgg291
  z63 := Tryz.sizeOf291
  v63 := Tryz.zeroValue291
  t64 := Tryz.underlying233
  a64 := Tryz.isAgg233
  z64 := Tryz.sizeOf233
  v64 := Tryz.zeroValue233 }
end Go.Proofs.YtogphaiomlfofaaGreatDoor
