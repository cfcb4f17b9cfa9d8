/- The library's contracts of maps.Keys, slices.Sorted and slices.Sort at int, at this program (written by genShelf.py). -/
import Derived.Test.YtaiggfknighhgaaGreatDoorChecked
import Derived.Shelf.SlIterI.Nil
import Derived.Shelf.SlIterI.Sorted
import Derived.Shelf.SortM.Plain
import Derived.Shelf.SortM.SortNone
set_option linter.unusedVariables false
set_option linter.unusedSimpArgs false
namespace Go.Proofs.YtaiggfknighhgaaGreatDoor
open Go.Shelf
def shelfKeys_ren : Go.Shelf.Ren := ⟨fun | 7 => 75 | 10 => 93 | n => n, fun | 23 => 128 | 26 => 3 | 3 => 4 | 28 => 131 | 0 => 0 | 27 => 130 | 33 => 93 | 4 => 4 | n => n, fun | n => n⟩
theorem shelfKeys : Go.Proofs.SlLaysZI.n7 Tryz.prog shelfKeys_ren := {
  mixed := by kernel_rfl
  f7 := ⟨Tryz.f75.name, by decide, Tryz.func75.trans (congrArg some (by kernel_rfl))⟩
  f10 := ⟨Tryz.f93.name, by decide, Tryz.func93.trans (congrArg some (by kernel_rfl))⟩
  t0 := Tryz.underlying0
  a0 := Tryz.isAgg0
  z0 := Tryz.sizeOf0
  v0 := Tryz.zeroValue0
  t4 := Tryz.underlying4
  a4 := Tryz.isAgg4
  z4 := Tryz.sizeOf4
  v4 := Tryz.zeroValue4
  t23 := Tryz.underlying128
  a23 := Tryz.isAgg128
  z23 := Tryz.sizeOf128
  v23 := Tryz.zeroValue128
  t26 := Tryz.underlying3
  a26 := Tryz.isAgg3
  z26 := Tryz.sizeOf3
  v26 := Tryz.zeroValue3
  t27 := Tryz.underlying130
  a27 := Tryz.isAgg130
  z27 := Tryz.sizeOf130
  v27 := Tryz.zeroValue130
  t28 := Tryz.underlying131
  a28 := Tryz.isAgg131
  z28 := Tryz.sizeOf131
  v28 := Tryz.zeroValue131
  t33 := Tryz.underlying93
  a33 := Tryz.isAgg93
  z33 := Tryz.sizeOf93
  v33 := Tryz.zeroValue93 }

def shelfSorted_ren : Go.Shelf.Ren := ⟨fun | 6 => 74 | 8 => 91 | 9 => 92 | 11 => 101 | 13 => 103 | 12 => 102 | 23 => 120 | 24 => 121 | 14 => 111 | 15 => 112 | 16 => 113 | 17 => 114 | 18 => 115 | 19 => 116 | 20 => 117 | 21 => 118 | 22 => 119 | 25 => 126 | 26 => 127 | 27 => 128 | 28 => 129 | 29 => 130 | 30 => 131 | 31 => 140 | n => n, fun | 26 => 3 | 28 => 131 | 24 => 95 | 0 => 0 | 3 => 3 | 37 => 119 | 48 => 24 | 50 => 146 | 4 => 4 | 40 => 164 | 39 => 163 | 45 => 57 | 5 => 5 | 9 => 9 | 51 => 174 | 55 => 178 | 57 => 187 | 58 => 188 | 33 => 93 | n => n, fun | n => n⟩
theorem shelfSorted : Go.Proofs.SlLaysZI.n6 Tryz.prog shelfSorted_ren := {
  mixed := by kernel_rfl
  f6 := ⟨Tryz.f74.name, by decide, Tryz.func74.trans (congrArg some (by kernel_rfl))⟩
  f8 := ⟨Tryz.f91.name, by decide, Tryz.func91.trans (congrArg some (by kernel_rfl))⟩
  f11 := ⟨Tryz.f101.name, by decide, Tryz.func101.trans (congrArg some (by kernel_rfl))⟩
  t0 := Tryz.underlying0
  a0 := Tryz.isAgg0
  z0 := Tryz.sizeOf0
  v0 := Tryz.zeroValue0
  t24 := Tryz.underlying95
  a24 := Tryz.isAgg95
  z24 := Tryz.sizeOf95
  v24 := Tryz.zeroValue95
  t26 := Tryz.underlying3
  a26 := Tryz.isAgg3
  z26 := Tryz.sizeOf3
  v26 := Tryz.zeroValue3
  t28 := Tryz.underlying131
  a28 := Tryz.isAgg131
  z28 := Tryz.sizeOf131
  v28 := Tryz.zeroValue131
  i26 := by kernel_rfl }

def shelfSort_ren : Go.Shelf.Ren := ⟨fun | 5 => 92 | 8 => 103 | 7 => 102 | 19 => 120 | 20 => 121 | 10 => 111 | 11 => 112 | 12 => 113 | 13 => 114 | 14 => 115 | 15 => 116 | 16 => 117 | 17 => 118 | 18 => 119 | 30 => 126 | 31 => 127 | 32 => 128 | 33 => 129 | 34 => 130 | 35 => 131 | 40 => 140 | n => n, fun | 23 => 95 | 25 => 3 | 3 => 3 | 32 => 119 | 22 => 95 | 0 => 0 | 44 => 24 | 46 => 146 | 4 => 4 | 36 => 164 | 35 => 163 | 41 => 57 | 5 => 5 | 9 => 9 | 53 => 174 | 57 => 178 | 63 => 187 | 64 => 188 | n => n, fun | n => n⟩
theorem shelfSort : Go.Proofs.SlLaysM.n5 Tryz.prog shelfSort_ren := {
  mixed := by kernel_rfl
  f5 := ⟨Tryz.f92.name, by decide, Tryz.func92.trans (congrArg some (by kernel_rfl))⟩
  f7 := ⟨Tryz.f102.name, by decide, Tryz.func102.trans (congrArg some (by kernel_rfl))⟩
  f8 := Tryz.func103.trans (congrArg some (by kernel_rfl))
  f10 := ⟨Tryz.f111.name, by decide, Tryz.func111.trans (congrArg some (by kernel_rfl))⟩
  f11 := ⟨Tryz.f112.name, by decide, Tryz.func112.trans (congrArg some (by kernel_rfl))⟩
  f12 := ⟨Tryz.f113.name, by decide, Tryz.func113.trans (congrArg some (by kernel_rfl))⟩
  f13 := ⟨Tryz.f114.name, by decide, Tryz.func114.trans (congrArg some (by kernel_rfl))⟩
  f14 := ⟨Tryz.f115.name, by decide, Tryz.func115.trans (congrArg some (by kernel_rfl))⟩
  f15 := ⟨Tryz.f116.name, by decide, Tryz.func116.trans (congrArg some (by kernel_rfl))⟩
  f16 := ⟨Tryz.f117.name, by decide, Tryz.func117.trans (congrArg some (by kernel_rfl))⟩
  f17 := ⟨Tryz.f118.name, by decide, Tryz.func118.trans (congrArg some (by kernel_rfl))⟩
  f18 := ⟨Tryz.f119.name, by decide, Tryz.func119.trans (congrArg some (by kernel_rfl))⟩
  f19 := Tryz.func120.trans (congrArg some (by kernel_rfl))
  f20 := Tryz.func121.trans (congrArg some (by kernel_rfl))
  f30 := ⟨Tryz.f126.name, by decide, Tryz.func126.trans (congrArg some (by kernel_rfl))⟩
  f31 := Tryz.func127.trans (congrArg some (by kernel_rfl))
  f32 := Tryz.func128.trans (congrArg some (by kernel_rfl))
  f33 := ⟨Tryz.f129.name, by decide, Tryz.func129.trans (congrArg some (by kernel_rfl))⟩
  f34 := ⟨Tryz.f130.name, by decide, Tryz.func130.trans (congrArg some (by kernel_rfl))⟩
  f35 := ⟨Tryz.f131.name, by decide, Tryz.func131.trans (congrArg some (by kernel_rfl))⟩
  f40 := ⟨Tryz.f140.name, by decide, Tryz.func140.trans (congrArg some (by kernel_rfl))⟩
  t0 := Tryz.underlying0
  a0 := Tryz.isAgg0
  z0 := Tryz.sizeOf0
  v0 := Tryz.zeroValue0
  t3 := Tryz.underlying3
  a3 := Tryz.isAgg3
  z3 := Tryz.sizeOf3
  v3 := Tryz.zeroValue3
  t4 := Tryz.underlying4
  a4 := Tryz.isAgg4
  z4 := Tryz.sizeOf4
  v4 := Tryz.zeroValue4
  t5 := Tryz.underlying5
  a5 := Tryz.isAgg5
  z5 := Tryz.sizeOf5
  v5 := Tryz.zeroValue5
  t9 := Tryz.underlying9
  a9 := Tryz.isAgg9
  z9 := Tryz.sizeOf9
  v9 := Tryz.zeroValue9
  t22 := Tryz.underlying95
  a22 := Tryz.isAgg95
  z22 := Tryz.sizeOf95
  v22 := Tryz.zeroValue95
  t23 := Tryz.underlying95
  a23 := Tryz.isAgg95
  z23 := Tryz.sizeOf95
  v23 := Tryz.zeroValue95
  t25 := Tryz.underlying3
  a25 := Tryz.isAgg3
  z25 := Tryz.sizeOf3
  v25 := Tryz.zeroValue3
  t32 := Tryz.underlying119
  a32 := Tryz.isAgg119
  z32 := Tryz.sizeOf119
  v32 := Tryz.zeroValue119
  t35 := Tryz.underlying163
  a35 := Tryz.isAgg163
  z35 := Tryz.sizeOf163
  v35 := Tryz.zeroValue163
  t36 := Tryz.underlying164
  a36 := Tryz.isAgg164
  z36 := Tryz.sizeOf164
  v36 := Tryz.zeroValue164
  t41 := Tryz.underlying57
  a41 := Tryz.isAgg57
  z41 := Tryz.sizeOf57
  v41 := Tryz.zeroValue57
  t44 := Tryz.underlying24
  a44 := Tryz.isAgg24
  z44 := Tryz.sizeOf24
  v44 := Tryz.zeroValue24
  t46 := Tryz.underlying146
  a46 := Tryz.isAgg146
  z46 := Tryz.sizeOf146
  v46 := Tryz.zeroValue146
  t53 := Tryz.underlying174
  a53 := Tryz.isAgg174
  z53 := Tryz.sizeOf174
  v53 := Tryz.zeroValue174
  t57 := Tryz.underlying178
  a57 := Tryz.isAgg178
  z57 := Tryz.sizeOf178
  v57 := Tryz.zeroValue178
  t63 := Tryz.underlying187
  a63 := Tryz.isAgg187
  z63 := Tryz.sizeOf187
  v63 := Tryz.zeroValue187
  t64 := Tryz.underlying188
  a64 := Tryz.isAgg188
  z64 := Tryz.sizeOf188
  v64 := Tryz.zeroValue188 }

end Go.Proofs.YtaiggfknighhgaaGreatDoor
