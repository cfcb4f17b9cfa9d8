/- The library's contracts of maps.Keys, slices.Sorted and slices.Sort at int, at this program (written by genShelf.py). -/
import Derived.Test.YtekleoccdockhaaGreatDoorChecked
import Derived.Shelf.SlIterI.Nil
import Derived.Shelf.SlIterI.Sorted
import Derived.Shelf.SortM.Plain
import Derived.Shelf.SortM.SortNone
set_option linter.unusedVariables false
set_option linter.unusedSimpArgs false
namespace Go.Proofs.YtekleoccdockhaaGreatDoor
open Go.Shelf
def shelfKeys_ren : Go.Shelf.Ren := ⟨fun | 7 => 41 | 10 => 55 | n => n, fun | 23 => 92 | 26 => 3 | 3 => 4 | 28 => 95 | 0 => 0 | 27 => 94 | 33 => 45 | 4 => 4 | n => n, fun | n => n⟩
theorem shelfKeys : Go.Proofs.SlLaysZI.n7 Tryz.prog shelfKeys_ren := {
  mixed := by kernel_rfl
  f7 := ⟨Tryz.f41.name, by decide, Tryz.func41.trans (congrArg some (by kernel_rfl))⟩
  f10 := ⟨Tryz.f55.name, by decide, Tryz.func55.trans (congrArg some (by kernel_rfl))⟩
  t0 := Tryz.underlying0
  a0 := Tryz.isAgg0
  z0 := Tryz.sizeOf0
  v0 := Tryz.zeroValue0
  t4 := Tryz.underlying4
  a4 := Tryz.isAgg4
  z4 := Tryz.sizeOf4
  v4 := Tryz.zeroValue4
  t23 := Tryz.underlying92
  a23 := Tryz.isAgg92
  z23 := Tryz.sizeOf92
  v23 := Tryz.zeroValue92
  t26 := Tryz.underlying3
  a26 := Tryz.isAgg3
  z26 := Tryz.sizeOf3
  v26 := Tryz.zeroValue3
  t27 := Tryz.underlying94
  a27 := Tryz.isAgg94
  z27 := Tryz.sizeOf94
  v27 := Tryz.zeroValue94
  t28 := Tryz.underlying95
  a28 := Tryz.isAgg95
  z28 := Tryz.sizeOf95
  v28 := Tryz.zeroValue95
  t33 := Tryz.underlying45
  a33 := Tryz.isAgg45
  z33 := Tryz.sizeOf45
  v33 := Tryz.zeroValue45 }

def shelfSorted_ren : Go.Shelf.Ren := ⟨fun | 6 => 40 | 8 => 53 | 9 => 54 | 11 => 65 | 13 => 67 | 12 => 66 | 23 => 83 | 24 => 84 | 14 => 74 | 15 => 75 | 16 => 76 | 17 => 77 | 18 => 78 | 19 => 79 | 20 => 80 | 21 => 81 | 22 => 82 | 25 => 89 | 26 => 90 | 27 => 91 | 28 => 92 | 29 => 93 | 30 => 94 | 31 => 103 | n => n, fun | 26 => 3 | 28 => 95 | 24 => 57 | 0 => 0 | 3 => 3 | 37 => 104 | 48 => 23 | 50 => 103 | 4 => 4 | 40 => 124 | 39 => 123 | 45 => 55 | 5 => 5 | 9 => 9 | 51 => 133 | 55 => 137 | 57 => 146 | 58 => 147 | 33 => 45 | n => n, fun | n => n⟩
theorem shelfSorted : Go.Proofs.SlLaysZI.n6 Tryz.prog shelfSorted_ren := {
  mixed := by kernel_rfl
  f6 := ⟨Tryz.f40.name, by decide, Tryz.func40.trans (congrArg some (by kernel_rfl))⟩
  f8 := ⟨Tryz.f53.name, by decide, Tryz.func53.trans (congrArg some (by kernel_rfl))⟩
  f11 := ⟨Tryz.f65.name, by decide, Tryz.func65.trans (congrArg some (by kernel_rfl))⟩
  t0 := Tryz.underlying0
  a0 := Tryz.isAgg0
  z0 := Tryz.sizeOf0
  v0 := Tryz.zeroValue0
  t24 := Tryz.underlying57
  a24 := Tryz.isAgg57
  z24 := Tryz.sizeOf57
  v24 := Tryz.zeroValue57
  t26 := Tryz.underlying3
  a26 := Tryz.isAgg3
  z26 := Tryz.sizeOf3
  v26 := Tryz.zeroValue3
  t28 := Tryz.underlying95
  a28 := Tryz.isAgg95
  z28 := Tryz.sizeOf95
  v28 := Tryz.zeroValue95
  i26 := by kernel_rfl }

def shelfSort_ren : Go.Shelf.Ren := ⟨fun | 5 => 54 | 8 => 67 | 7 => 66 | 19 => 83 | 20 => 84 | 10 => 74 | 11 => 75 | 12 => 76 | 13 => 77 | 14 => 78 | 15 => 79 | 16 => 80 | 17 => 81 | 18 => 82 | 30 => 89 | 31 => 90 | 32 => 91 | 33 => 92 | 34 => 93 | 35 => 94 | 40 => 103 | n => n, fun | 23 => 57 | 25 => 3 | 3 => 3 | 32 => 104 | 22 => 57 | 0 => 0 | 44 => 23 | 46 => 103 | 4 => 4 | 36 => 124 | 35 => 123 | 41 => 55 | 5 => 5 | 9 => 9 | 53 => 133 | 57 => 137 | 63 => 146 | 64 => 147 | n => n, fun | n => n⟩
theorem shelfSort : Go.Proofs.SlLaysM.n5 Tryz.prog shelfSort_ren := {
  mixed := by kernel_rfl
  f5 := ⟨Tryz.f54.name, by decide, Tryz.func54.trans (congrArg some (by kernel_rfl))⟩
  f7 := ⟨Tryz.f66.name, by decide, Tryz.func66.trans (congrArg some (by kernel_rfl))⟩
  f8 := Tryz.func67.trans (congrArg some (by kernel_rfl))
  f10 := ⟨Tryz.f74.name, by decide, Tryz.func74.trans (congrArg some (by kernel_rfl))⟩
  f11 := ⟨Tryz.f75.name, by decide, Tryz.func75.trans (congrArg some (by kernel_rfl))⟩
  f12 := ⟨Tryz.f76.name, by decide, Tryz.func76.trans (congrArg some (by kernel_rfl))⟩
  f13 := ⟨Tryz.f77.name, by decide, Tryz.func77.trans (congrArg some (by kernel_rfl))⟩
  f14 := ⟨Tryz.f78.name, by decide, Tryz.func78.trans (congrArg some (by kernel_rfl))⟩
  f15 := ⟨Tryz.f79.name, by decide, Tryz.func79.trans (congrArg some (by kernel_rfl))⟩
  f16 := ⟨Tryz.f80.name, by decide, Tryz.func80.trans (congrArg some (by kernel_rfl))⟩
  f17 := ⟨Tryz.f81.name, by decide, Tryz.func81.trans (congrArg some (by kernel_rfl))⟩
  f18 := ⟨Tryz.f82.name, by decide, Tryz.func82.trans (congrArg some (by kernel_rfl))⟩
  f19 := Tryz.func83.trans (congrArg some (by kernel_rfl))
  f20 := Tryz.func84.trans (congrArg some (by kernel_rfl))
  f30 := ⟨Tryz.f89.name, by decide, Tryz.func89.trans (congrArg some (by kernel_rfl))⟩
  f31 := Tryz.func90.trans (congrArg some (by kernel_rfl))
  f32 := Tryz.func91.trans (congrArg some (by kernel_rfl))
  f33 := ⟨Tryz.f92.name, by decide, Tryz.func92.trans (congrArg some (by kernel_rfl))⟩
  f34 := ⟨Tryz.f93.name, by decide, Tryz.func93.trans (congrArg some (by kernel_rfl))⟩
  f35 := ⟨Tryz.f94.name, by decide, Tryz.func94.trans (congrArg some (by kernel_rfl))⟩
  f40 := ⟨Tryz.f103.name, by decide, Tryz.func103.trans (congrArg some (by kernel_rfl))⟩
  t0 := Tryz.underlying0
  a0 := Tryz.isAgg0
  z0 := Tryz.sizeOf0
  v0 := Tryz.zeroValue0
  t3 := Tryz.underlying3
  a3 := Tryz.isAgg3
  z3 := Tryz.sizeOf3
  v3 := Tryz.zeroValue3
  t4 := Tryz.underlying4
  a4 := Tryz.isAgg4
  z4 := Tryz.sizeOf4
  v4 := Tryz.zeroValue4
  t5 := Tryz.underlying5
  a5 := Tryz.isAgg5
  z5 := Tryz.sizeOf5
  v5 := Tryz.zeroValue5
  t9 := Tryz.underlying9
  a9 := Tryz.isAgg9
  z9 := Tryz.sizeOf9
  v9 := Tryz.zeroValue9
  t22 := Tryz.underlying57
  a22 := Tryz.isAgg57
  z22 := Tryz.sizeOf57
  v22 := Tryz.zeroValue57
  t23 := Tryz.underlying57
  a23 := Tryz.isAgg57
  z23 := Tryz.sizeOf57
  v23 := Tryz.zeroValue57
  t25 := Tryz.underlying3
  a25 := Tryz.isAgg3
  z25 := Tryz.sizeOf3
  v25 := Tryz.zeroValue3
  t32 := Tryz.underlying104
  a32 := Tryz.isAgg104
  z32 := Tryz.sizeOf104
  v32 := Tryz.zeroValue104
  t35 := Tryz.underlying123
  a35 := Tryz.isAgg123
  z35 := Tryz.sizeOf123
  v35 := Tryz.zeroValue123
  t36 := Tryz.underlying124
  a36 := Tryz.isAgg124
  z36 := Tryz.sizeOf124
  v36 := Tryz.zeroValue124
  t41 := Tryz.underlying55
  a41 := Tryz.isAgg55
  z41 := Tryz.sizeOf55
  v41 := Tryz.zeroValue55
  t44 := Tryz.underlying23
  a44 := Tryz.isAgg23
  z44 := Tryz.sizeOf23
  v44 := Tryz.zeroValue23
  t46 := Tryz.underlying103
  a46 := Tryz.isAgg103
  z46 := Tryz.sizeOf103
  v46 := Tryz.zeroValue103
  t53 := Tryz.underlying133
  a53 := Tryz.isAgg133
  z53 := Tryz.sizeOf133
  v53 := Tryz.zeroValue133
  t57 := Tryz.underlying137
  a57 := Tryz.isAgg137
  z57 := Tryz.sizeOf137
  v57 := Tryz.zeroValue137
  t63 := Tryz.underlying146
  a63 := Tryz.isAgg146
  z63 := Tryz.sizeOf146
  v63 := Tryz.zeroValue146
  t64 := Tryz.underlying147
  a64 := Tryz.isAgg147
  z64 := Tryz.sizeOf147
  v64 := Tryz.zeroValue147 }

end Go.Proofs.YtekleoccdockhaaGreatDoor
