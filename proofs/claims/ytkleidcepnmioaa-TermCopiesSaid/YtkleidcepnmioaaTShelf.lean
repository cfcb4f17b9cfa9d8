/- The library's contracts of maps.Keys, slices.Sorted and slices.Sort at int, at this program (written by genShelf.py). -/
import Derived.Test.YtkleidcepnmioaaChecked
import Derived.Shelf.SlIterI.Nil
import Derived.Shelf.SlIterI.Sorted
import Derived.Shelf.SortM.Plain
import Derived.Shelf.SortM.SortNone
set_option linter.unusedVariables false
set_option linter.unusedSimpArgs false
namespace Go.Proofs.Ytkleidcepnmioaa
open Go.Shelf
def shelfKeys_ren : Go.Shelf.Ren := ⟨fun | 7 => 45 | 10 => 62 | n => n, fun | 23 => 92 | 26 => 3 | 3 => 4 | 28 => 95 | 0 => 0 | 27 => 94 | 33 => 73 | 4 => 4 | n => n, fun | n => n⟩
theorem shelfKeys : Go.Proofs.SlLaysZI.n7 Try.prog shelfKeys_ren := {
  mixed := by kernel_rfl
  f7 := ⟨Try.f45.name, by decide, Try.func45.trans (congrArg some (by kernel_rfl))⟩
  f10 := ⟨Try.f62.name, by decide, Try.func62.trans (congrArg some (by kernel_rfl))⟩
  t0 := Try.underlying0
  a0 := Try.isAgg0
  z0 := Try.sizeOf0
  v0 := Try.zeroValue0
  t4 := Try.underlying4
  a4 := Try.isAgg4
  z4 := Try.sizeOf4
  v4 := Try.zeroValue4
  t23 := Try.underlying92
  a23 := Try.isAgg92
  z23 := Try.sizeOf92
  v23 := Try.zeroValue92
  t26 := Try.underlying3
  a26 := Try.isAgg3
  z26 := Try.sizeOf3
  v26 := Try.zeroValue3
  t27 := Try.underlying94
  a27 := Try.isAgg94
  z27 := Try.sizeOf94
  v27 := Try.zeroValue94
  t28 := Try.underlying95
  a28 := Try.isAgg95
  z28 := Try.sizeOf95
  v28 := Try.zeroValue95
  t33 := Try.underlying73
  a33 := Try.isAgg73
  z33 := Try.sizeOf73
  v33 := Try.zeroValue73 }

def shelfSorted_ren : Go.Shelf.Ren := ⟨fun | 6 => 44 | 8 => 60 | 9 => 61 | 11 => 66 | 13 => 68 | 12 => 67 | 23 => 82 | 24 => 83 | 14 => 73 | 15 => 74 | 16 => 75 | 17 => 76 | 18 => 77 | 19 => 78 | 20 => 79 | 21 => 80 | 22 => 81 | 25 => 88 | 26 => 89 | 27 => 90 | 28 => 91 | 29 => 92 | 30 => 93 | 31 => 102 | n => n, fun | 26 => 3 | 28 => 95 | 24 => 75 | 0 => 0 | 3 => 3 | 37 => 108 | 48 => 22 | 50 => 107 | 4 => 4 | 40 => 119 | 39 => 118 | 45 => 90 | 5 => 5 | 9 => 9 | 51 => 128 | 55 => 132 | 57 => 141 | 58 => 142 | 33 => 73 | n => n, fun | n => n⟩
theorem shelfSorted : Go.Proofs.SlLaysZI.n6 Try.prog shelfSorted_ren := {
  mixed := by kernel_rfl
  f6 := ⟨Try.f44.name, by decide, Try.func44.trans (congrArg some (by kernel_rfl))⟩
  f8 := ⟨Try.f60.name, by decide, Try.func60.trans (congrArg some (by kernel_rfl))⟩
  f11 := ⟨Try.f66.name, by decide, Try.func66.trans (congrArg some (by kernel_rfl))⟩
  t0 := Try.underlying0
  a0 := Try.isAgg0
  z0 := Try.sizeOf0
  v0 := Try.zeroValue0
  t24 := Try.underlying75
  a24 := Try.isAgg75
  z24 := Try.sizeOf75
  v24 := Try.zeroValue75
  t26 := Try.underlying3
  a26 := Try.isAgg3
  z26 := Try.sizeOf3
  v26 := Try.zeroValue3
  t28 := Try.underlying95
  a28 := Try.isAgg95
  z28 := Try.sizeOf95
  v28 := Try.zeroValue95
  i26 := by kernel_rfl }

def shelfSort_ren : Go.Shelf.Ren := ⟨fun | 5 => 61 | 8 => 68 | 7 => 67 | 19 => 82 | 20 => 83 | 10 => 73 | 11 => 74 | 12 => 75 | 13 => 76 | 14 => 77 | 15 => 78 | 16 => 79 | 17 => 80 | 18 => 81 | 30 => 88 | 31 => 89 | 32 => 90 | 33 => 91 | 34 => 92 | 35 => 93 | 40 => 102 | n => n, fun | 23 => 75 | 25 => 3 | 3 => 3 | 32 => 108 | 22 => 75 | 0 => 0 | 44 => 22 | 46 => 107 | 4 => 4 | 36 => 119 | 35 => 118 | 41 => 90 | 5 => 5 | 9 => 9 | 53 => 128 | 57 => 132 | 63 => 141 | 64 => 142 | n => n, fun | n => n⟩
theorem shelfSort : Go.Proofs.SlLaysM.n5 Try.prog shelfSort_ren := {
  mixed := by kernel_rfl
  f5 := ⟨Try.f61.name, by decide, Try.func61.trans (congrArg some (by kernel_rfl))⟩
  f7 := ⟨Try.f67.name, by decide, Try.func67.trans (congrArg some (by kernel_rfl))⟩
  f8 := Try.func68.trans (congrArg some (by kernel_rfl))
  f10 := ⟨Try.f73.name, by decide, Try.func73.trans (congrArg some (by kernel_rfl))⟩
  f11 := ⟨Try.f74.name, by decide, Try.func74.trans (congrArg some (by kernel_rfl))⟩
  f12 := ⟨Try.f75.name, by decide, Try.func75.trans (congrArg some (by kernel_rfl))⟩
  f13 := ⟨Try.f76.name, by decide, Try.func76.trans (congrArg some (by kernel_rfl))⟩
  f14 := ⟨Try.f77.name, by decide, Try.func77.trans (congrArg some (by kernel_rfl))⟩
  f15 := ⟨Try.f78.name, by decide, Try.func78.trans (congrArg some (by kernel_rfl))⟩
  f16 := ⟨Try.f79.name, by decide, Try.func79.trans (congrArg some (by kernel_rfl))⟩
  f17 := ⟨Try.f80.name, by decide, Try.func80.trans (congrArg some (by kernel_rfl))⟩
  f18 := ⟨Try.f81.name, by decide, Try.func81.trans (congrArg some (by kernel_rfl))⟩
  f19 := Try.func82.trans (congrArg some (by kernel_rfl))
  f20 := Try.func83.trans (congrArg some (by kernel_rfl))
  f30 := ⟨Try.f88.name, by decide, Try.func88.trans (congrArg some (by kernel_rfl))⟩
  f31 := Try.func89.trans (congrArg some (by kernel_rfl))
  f32 := Try.func90.trans (congrArg some (by kernel_rfl))
  f33 := ⟨Try.f91.name, by decide, Try.func91.trans (congrArg some (by kernel_rfl))⟩
  f34 := ⟨Try.f92.name, by decide, Try.func92.trans (congrArg some (by kernel_rfl))⟩
  f35 := ⟨Try.f93.name, by decide, Try.func93.trans (congrArg some (by kernel_rfl))⟩
  f40 := ⟨Try.f102.name, by decide, Try.func102.trans (congrArg some (by kernel_rfl))⟩
  t0 := Try.underlying0
  a0 := Try.isAgg0
  z0 := Try.sizeOf0
  v0 := Try.zeroValue0
  t3 := Try.underlying3
  a3 := Try.isAgg3
  z3 := Try.sizeOf3
  v3 := Try.zeroValue3
  t4 := Try.underlying4
  a4 := Try.isAgg4
  z4 := Try.sizeOf4
  v4 := Try.zeroValue4
  t5 := Try.underlying5
  a5 := Try.isAgg5
  z5 := Try.sizeOf5
  v5 := Try.zeroValue5
  t9 := Try.underlying9
  a9 := Try.isAgg9
  z9 := Try.sizeOf9
  v9 := Try.zeroValue9
  t22 := Try.underlying75
  a22 := Try.isAgg75
  z22 := Try.sizeOf75
  v22 := Try.zeroValue75
  t23 := Try.underlying75
  a23 := Try.isAgg75
  z23 := Try.sizeOf75
  v23 := Try.zeroValue75
  t25 := Try.underlying3
  a25 := Try.isAgg3
  z25 := Try.sizeOf3
  v25 := Try.zeroValue3
  t32 := Try.underlying108
  a32 := Try.isAgg108
  z32 := Try.sizeOf108
  v32 := Try.zeroValue108
  t35 := Try.underlying118
  a35 := Try.isAgg118
  z35 := Try.sizeOf118
  v35 := Try.zeroValue118
  t36 := Try.underlying119
  a36 := Try.isAgg119
  z36 := Try.sizeOf119
  v36 := Try.zeroValue119
  t41 := Try.underlying90
  a41 := Try.isAgg90
  z41 := Try.sizeOf90
  v41 := Try.zeroValue90
  t44 := Try.underlying22
  a44 := Try.isAgg22
  z44 := Try.sizeOf22
  v44 := Try.zeroValue22
  t46 := Try.underlying107
  a46 := Try.isAgg107
  z46 := Try.sizeOf107
  v46 := Try.zeroValue107
  t53 := Try.underlying128
  a53 := Try.isAgg128
  z53 := Try.sizeOf128
  v53 := Try.zeroValue128
  t57 := Try.underlying132
  a57 := Try.isAgg132
  z57 := Try.sizeOf132
  v57 := Try.zeroValue132
  t63 := Try.underlying141
  a63 := Try.isAgg141
  z63 := Try.sizeOf141
  v63 := Try.zeroValue141
  t64 := Try.underlying142
  a64 := Try.isAgg142
  z64 := Try.sizeOf142
  v64 := Try.zeroValue142 }

end Go.Proofs.Ytkleidcepnmioaa
