/- The library's contracts of maps.Keys, slices.Sorted and slices.Sort at int, at this program (written by genShelf.py). -/
import Derived.Test.YtaiggfknighhgaaDoorChecked
import Derived.Shelf.SlIterI.Nil
import Derived.Shelf.SlIterI.Sorted
import Derived.Shelf.SortM.Plain
import Derived.Shelf.SortM.SortNone
set_option linter.unusedVariables false
set_option linter.unusedSimpArgs false
namespace Go.Proofs.YtaiggfknighhgaaDoor
open Go.Shelf
def shelfKeys_ren : Go.Shelf.Ren := ⟨fun | 7 => 35 | 10 => 45 | n => n, fun | 23 => 91 | 26 => 3 | 3 => 4 | 28 => 94 | 0 => 0 | 27 => 93 | 33 => 73 | 4 => 4 | n => n, fun | n => n⟩
theorem shelfKeys : Go.Proofs.SlLaysZI.n7 Tryd.prog shelfKeys_ren := {
  mixed := by kernel_rfl
  f7 := ⟨Tryd.f35.name, by decide, Tryd.func35.trans (congrArg some (by kernel_rfl))⟩
  f10 := ⟨Tryd.f45.name, by decide, Tryd.func45.trans (congrArg some (by kernel_rfl))⟩
  t0 := Tryd.underlying0
  a0 := Tryd.isAgg0
  z0 := Tryd.sizeOf0
  v0 := Tryd.zeroValue0
  t4 := Tryd.underlying4
  a4 := Tryd.isAgg4
  z4 := Tryd.sizeOf4
  v4 := Tryd.zeroValue4
  t23 := Tryd.underlying91
  a23 := Tryd.isAgg91
  z23 := Tryd.sizeOf91
  v23 := Tryd.zeroValue91
  t26 := Tryd.underlying3
  a26 := Tryd.isAgg3
  z26 := Tryd.sizeOf3
  v26 := Tryd.zeroValue3
  t27 := Tryd.underlying93
  a27 := Tryd.isAgg93
  z27 := Tryd.sizeOf93
  v27 := Tryd.zeroValue93
  t28 := Tryd.underlying94
  a28 := Tryd.isAgg94
  z28 := Tryd.sizeOf94
  v28 := Tryd.zeroValue94
  t33 := Tryd.underlying73
  a33 := Tryd.isAgg73
  z33 := Tryd.sizeOf73
  v33 := Tryd.zeroValue73 }

def shelfSorted_ren : Go.Shelf.Ren := ⟨fun | 6 => 34 | 8 => 43 | 9 => 44 | 11 => 54 | 13 => 56 | 12 => 55 | 23 => 71 | 24 => 72 | 14 => 62 | 15 => 63 | 16 => 64 | 17 => 65 | 18 => 66 | 19 => 67 | 20 => 68 | 21 => 69 | 22 => 70 | 25 => 77 | 26 => 78 | 27 => 79 | 28 => 80 | 29 => 81 | 30 => 82 | 31 => 87 | n => n, fun | 26 => 3 | 28 => 94 | 24 => 75 | 0 => 0 | 3 => 3 | 37 => 79 | 48 => 23 | 50 => 103 | 4 => 4 | 40 => 121 | 39 => 120 | 45 => 70 | 5 => 5 | 9 => 9 | 51 => 133 | 55 => 137 | 57 => 141 | 58 => 142 | 33 => 73 | n => n, fun | n => n⟩
theorem shelfSorted : Go.Proofs.SlLaysZI.n6 Tryd.prog shelfSorted_ren := {
  mixed := by kernel_rfl
  f6 := ⟨Tryd.f34.name, by decide, Tryd.func34.trans (congrArg some (by kernel_rfl))⟩
  f8 := ⟨Tryd.f43.name, by decide, Tryd.func43.trans (congrArg some (by kernel_rfl))⟩
  f11 := ⟨Tryd.f54.name, by decide, Tryd.func54.trans (congrArg some (by kernel_rfl))⟩
  t0 := Tryd.underlying0
  a0 := Tryd.isAgg0
  z0 := Tryd.sizeOf0
  v0 := Tryd.zeroValue0
  t24 := Tryd.underlying75
  a24 := Tryd.isAgg75
  z24 := Tryd.sizeOf75
  v24 := Tryd.zeroValue75
  t26 := Tryd.underlying3
  a26 := Tryd.isAgg3
  z26 := Tryd.sizeOf3
  v26 := Tryd.zeroValue3
  t28 := Tryd.underlying94
  a28 := Tryd.isAgg94
  z28 := Tryd.sizeOf94
  v28 := Tryd.zeroValue94
  i26 := by kernel_rfl }

def shelfSort_ren : Go.Shelf.Ren := ⟨fun | 5 => 44 | 8 => 56 | 7 => 55 | 19 => 71 | 20 => 72 | 10 => 62 | 11 => 63 | 12 => 64 | 13 => 65 | 14 => 66 | 15 => 67 | 16 => 68 | 17 => 69 | 18 => 70 | 30 => 77 | 31 => 78 | 32 => 79 | 33 => 80 | 34 => 81 | 35 => 82 | 40 => 87 | n => n, fun | 23 => 75 | 25 => 3 | 3 => 3 | 32 => 79 | 22 => 75 | 0 => 0 | 44 => 23 | 46 => 103 | 4 => 4 | 36 => 121 | 35 => 120 | 41 => 70 | 5 => 5 | 9 => 9 | 53 => 133 | 57 => 137 | 63 => 141 | 64 => 142 | n => n, fun | n => n⟩
theorem shelfSort : Go.Proofs.SlLaysM.n5 Tryd.prog shelfSort_ren := {
  mixed := by kernel_rfl
  f5 := ⟨Tryd.f44.name, by decide, Tryd.func44.trans (congrArg some (by kernel_rfl))⟩
  f7 := ⟨Tryd.f55.name, by decide, Tryd.func55.trans (congrArg some (by kernel_rfl))⟩
  f8 := Tryd.func56.trans (congrArg some (by kernel_rfl))
  f10 := ⟨Tryd.f62.name, by decide, Tryd.func62.trans (congrArg some (by kernel_rfl))⟩
  f11 := ⟨Tryd.f63.name, by decide, Tryd.func63.trans (congrArg some (by kernel_rfl))⟩
  f12 := ⟨Tryd.f64.name, by decide, Tryd.func64.trans (congrArg some (by kernel_rfl))⟩
  f13 := ⟨Tryd.f65.name, by decide, Tryd.func65.trans (congrArg some (by kernel_rfl))⟩
  f14 := ⟨Tryd.f66.name, by decide, Tryd.func66.trans (congrArg some (by kernel_rfl))⟩
  f15 := ⟨Tryd.f67.name, by decide, Tryd.func67.trans (congrArg some (by kernel_rfl))⟩
  f16 := ⟨Tryd.f68.name, by decide, Tryd.func68.trans (congrArg some (by kernel_rfl))⟩
  f17 := ⟨Tryd.f69.name, by decide, Tryd.func69.trans (congrArg some (by kernel_rfl))⟩
  f18 := ⟨Tryd.f70.name, by decide, Tryd.func70.trans (congrArg some (by kernel_rfl))⟩
  f19 := Tryd.func71.trans (congrArg some (by kernel_rfl))
  f20 := Tryd.func72.trans (congrArg some (by kernel_rfl))
  f30 := ⟨Tryd.f77.name, by decide, Tryd.func77.trans (congrArg some (by kernel_rfl))⟩
  f31 := Tryd.func78.trans (congrArg some (by kernel_rfl))
  f32 := Tryd.func79.trans (congrArg some (by kernel_rfl))
  f33 := ⟨Tryd.f80.name, by decide, Tryd.func80.trans (congrArg some (by kernel_rfl))⟩
  f34 := ⟨Tryd.f81.name, by decide, Tryd.func81.trans (congrArg some (by kernel_rfl))⟩
  f35 := ⟨Tryd.f82.name, by decide, Tryd.func82.trans (congrArg some (by kernel_rfl))⟩
  f40 := ⟨Tryd.f87.name, by decide, Tryd.func87.trans (congrArg some (by kernel_rfl))⟩
  t0 := Tryd.underlying0
  a0 := Tryd.isAgg0
  z0 := Tryd.sizeOf0
  v0 := Tryd.zeroValue0
  t3 := Tryd.underlying3
  a3 := Tryd.isAgg3
  z3 := Tryd.sizeOf3
  v3 := Tryd.zeroValue3
  t4 := Tryd.underlying4
  a4 := Tryd.isAgg4
  z4 := Tryd.sizeOf4
  v4 := Tryd.zeroValue4
  t5 := Tryd.underlying5
  a5 := Tryd.isAgg5
  z5 := Tryd.sizeOf5
  v5 := Tryd.zeroValue5
  t9 := Tryd.underlying9
  a9 := Tryd.isAgg9
  z9 := Tryd.sizeOf9
  v9 := Tryd.zeroValue9
  t22 := Tryd.underlying75
  a22 := Tryd.isAgg75
  z22 := Tryd.sizeOf75
  v22 := Tryd.zeroValue75
  t23 := Tryd.underlying75
  a23 := Tryd.isAgg75
  z23 := Tryd.sizeOf75
  v23 := Tryd.zeroValue75
  t25 := Tryd.underlying3
  a25 := Tryd.isAgg3
  z25 := Tryd.sizeOf3
  v25 := Tryd.zeroValue3
  t32 := Tryd.underlying79
  a32 := Tryd.isAgg79
  z32 := Tryd.sizeOf79
  v32 := Tryd.zeroValue79
  t35 := Tryd.underlying120
  a35 := Tryd.isAgg120
  z35 := Tryd.sizeOf120
  v35 := Tryd.zeroValue120
  t36 := Tryd.underlying121
  a36 := Tryd.isAgg121
  z36 := Tryd.sizeOf121
  v36 := Tryd.zeroValue121
  t41 := Tryd.underlying70
  a41 := Tryd.isAgg70
  z41 := Tryd.sizeOf70
  v41 := Tryd.zeroValue70
  t44 := Tryd.underlying23
  a44 := Tryd.isAgg23
  z44 := Tryd.sizeOf23
  v44 := Tryd.zeroValue23
  t46 := Tryd.underlying103
  a46 := Tryd.isAgg103
  z46 := Tryd.sizeOf103
  v46 := Tryd.zeroValue103
  t53 := Tryd.underlying133
  a53 := Tryd.isAgg133
  z53 := Tryd.sizeOf133
  v53 := Tryd.zeroValue133
  t57 := Tryd.underlying137
  a57 := Tryd.isAgg137
  z57 := Tryd.sizeOf137
  v57 := Tryd.zeroValue137
  t63 := Tryd.underlying141
  a63 := Tryd.isAgg141
  z63 := Tryd.sizeOf141
  v63 := Tryd.zeroValue141
  t64 := Tryd.underlying142
  a64 := Tryd.isAgg142
  z64 := Tryd.sizeOf142
  v64 := Tryd.zeroValue142 }

end Go.Proofs.YtaiggfknighhgaaDoor
