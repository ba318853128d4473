/- What the library says of slices.Sorted, maps.Keys and slices.Sort, laid at this program. -/
import Derived.Shelf.SlIter.Nil
import Derived.Shelf.SortM.Plain
import Derived.Shelf.SortM.SortNone
import Derived.Ground.GgzProg
import Derived.Ground.SlgmProg
import Derived.Test.YthobhkmphjnlaaaChecked
namespace Go.Proofs.Ythobhkmphjnlaaa
open Go.Shelf
set_option linter.unusedVariables false

def keysA_ren : Go.Shelf.Ren := ⟨fun | 7 => 72 | 10 => 95 | n => n, fun | 23 => 82 | 26 => 9 | 3 => 81 | 28 => 130 | 0 => 0 | 27 => 129 | 33 => 106 | 4 => 4 | n => n, fun | n => n⟩
theorem keysA : Go.Proofs.SlLaysZ.n7 Try.prog keysA_ren := {
  mixed := by kernel_rfl
  f7 := ⟨Try.f72.name, by decide, Try.func72.trans (congrArg some (by kernel_rfl))⟩
  f10 := ⟨Try.f95.name, by decide, Try.func95.trans (congrArg some (by kernel_rfl))⟩
  t0 := Try.underlying0
  a0 := Try.isAgg0
  z0 := Try.sizeOf0
  v0 := Try.zeroValue0
  t4 := Try.underlying4
  a4 := Try.isAgg4
  z4 := Try.sizeOf4
  v4 := Try.zeroValue4
  t23 := Try.underlying82
  a23 := Try.isAgg82
  z23 := Try.sizeOf82
  v23 := Try.zeroValue82
  t26 := Try.underlying9
  a26 := Try.isAgg9
  z26 := Try.sizeOf9
  v26 := Try.zeroValue9
  t27 := Try.underlying129
  a27 := Try.isAgg129
  z27 := Try.sizeOf129
  v27 := Try.zeroValue129
  t28 := Try.underlying130
  a28 := Try.isAgg130
  z28 := Try.sizeOf130
  v28 := Try.zeroValue130
  t33 := Try.underlying106
  a33 := Try.isAgg106
  z33 := Try.sizeOf106
  v33 := Try.zeroValue106 }

def sortedA_ren : Go.Shelf.Ren := ⟨fun | 6 => 71 | 8 => 93 | 9 => 94 | 11 => 99 | 13 => 101 | 12 => 100 | 23 => 111 | 24 => 112 | 14 => 102 | 15 => 103 | 16 => 104 | 17 => 105 | 18 => 106 | 19 => 107 | 20 => 108 | 21 => 109 | 22 => 110 | 25 => 113 | 26 => 114 | 27 => 115 | 28 => 116 | 29 => 117 | 30 => 118 | 31 => 119 | n => n, fun | 26 => 9 | 28 => 130 | 24 => 66 | 0 => 0 | 3 => 3 | 37 => 142 | 48 => 104 | 50 => 93 | 4 => 4 | 40 => 154 | 39 => 153 | 45 => 158 | 5 => 5 | 9 => 9 | 51 => 161 | 55 => 165 | 57 => 167 | 58 => 168 | 33 => 106 | n => n, fun | n => n⟩
theorem sortedA : Go.Proofs.SlLaysZ.n6 Try.prog sortedA_ren := {
  mixed := by kernel_rfl
  f6 := ⟨Try.f71.name, by decide, Try.func71.trans (congrArg some (by kernel_rfl))⟩
  f8 := ⟨Try.f93.name, by decide, Try.func93.trans (congrArg some (by kernel_rfl))⟩
  f11 := ⟨Try.f99.name, by decide, Try.func99.trans (congrArg some (by kernel_rfl))⟩
  t0 := Try.underlying0
  a0 := Try.isAgg0
  z0 := Try.sizeOf0
  v0 := Try.zeroValue0
  t24 := Try.underlying66
  a24 := Try.isAgg66
  z24 := Try.sizeOf66
  v24 := Try.zeroValue66
  t26 := Try.underlying9
  a26 := Try.isAgg9
  z26 := Try.sizeOf9
  v26 := Try.zeroValue9
  t28 := Try.underlying130
  a28 := Try.isAgg130
  z28 := Try.sizeOf130
  v28 := Try.zeroValue130
  i26 := by kernel_rfl }

def sortA_ren : Go.Shelf.Ren := ⟨fun | 6 => 94 | 8 => 101 | 9 => 100 | 19 => 111 | 20 => 112 | 21 => 102 | 22 => 103 | 23 => 104 | 24 => 105 | 25 => 106 | 26 => 107 | 27 => 108 | 28 => 109 | 29 => 110 | 36 => 113 | 31 => 114 | 32 => 115 | 37 => 116 | 38 => 117 | 39 => 118 | 41 => 119 | n => n, fun | 27 => 66 | 29 => 9 | 3 => 3 | 32 => 142 | 26 => 66 | 0 => 0 | 44 => 104 | 46 => 93 | 4 => 4 | 36 => 154 | 35 => 153 | 41 => 158 | 5 => 5 | 9 => 9 | 53 => 161 | 57 => 165 | 63 => 167 | 64 => 168 | n => n, fun | n => n⟩
theorem sortA : Go.Proofs.SlLaysM.n6 Try.prog sortA_ren := {
  mixed := by kernel_rfl
  f6 := ⟨Try.f94.name, by decide, Try.func94.trans (congrArg some (by kernel_rfl))⟩
  f8 := Try.func101.trans (congrArg some (by kernel_rfl))
  f9 := ⟨Try.f100.name, by decide, Try.func100.trans (congrArg some (by kernel_rfl))⟩
  f19 := Try.func111.trans (congrArg some (by kernel_rfl))
  f20 := Try.func112.trans (congrArg some (by kernel_rfl))
  f21 := ⟨Try.f102.name, by decide, Try.func102.trans (congrArg some (by kernel_rfl))⟩
  f22 := ⟨Try.f103.name, by decide, Try.func103.trans (congrArg some (by kernel_rfl))⟩
  f23 := ⟨Try.f104.name, by decide, Try.func104.trans (congrArg some (by kernel_rfl))⟩
  f24 := ⟨Try.f105.name, by decide, Try.func105.trans (congrArg some (by kernel_rfl))⟩
  f25 := ⟨Try.f106.name, by decide, Try.func106.trans (congrArg some (by kernel_rfl))⟩
  f26 := ⟨Try.f107.name, by decide, Try.func107.trans (congrArg some (by kernel_rfl))⟩
  f27 := ⟨Try.f108.name, by decide, Try.func108.trans (congrArg some (by kernel_rfl))⟩
  f28 := ⟨Try.f109.name, by decide, Try.func109.trans (congrArg some (by kernel_rfl))⟩
  f29 := ⟨Try.f110.name, by decide, Try.func110.trans (congrArg some (by kernel_rfl))⟩
  f31 := Try.func114.trans (congrArg some (by kernel_rfl))
  f32 := Try.func115.trans (congrArg some (by kernel_rfl))
  f36 := ⟨Try.f113.name, by decide, Try.func113.trans (congrArg some (by kernel_rfl))⟩
  f37 := ⟨Try.f116.name, by decide, Try.func116.trans (congrArg some (by kernel_rfl))⟩
  f38 := ⟨Try.f117.name, by decide, Try.func117.trans (congrArg some (by kernel_rfl))⟩
  f39 := ⟨Try.f118.name, by decide, Try.func118.trans (congrArg some (by kernel_rfl))⟩
  f41 := ⟨Try.f119.name, by decide, Try.func119.trans (congrArg some (by kernel_rfl))⟩
  t0 := Try.underlying0
  a0 := Try.isAgg0
  z0 := Try.sizeOf0
  v0 := Try.zeroValue0
  t3 := Try.underlying3
  a3 := Try.isAgg3
  z3 := Try.sizeOf3
  v3 := Try.zeroValue3
  t4 := Try.underlying4
  a4 := Try.isAgg4
  z4 := Try.sizeOf4
  v4 := Try.zeroValue4
  t5 := Try.underlying5
  a5 := Try.isAgg5
  z5 := Try.sizeOf5
  v5 := Try.zeroValue5
  t9 := Try.underlying9
  a9 := Try.isAgg9
  z9 := Try.sizeOf9
  v9 := Try.zeroValue9
  t26 := Try.underlying66
  a26 := Try.isAgg66
  z26 := Try.sizeOf66
  v26 := Try.zeroValue66
  t27 := Try.underlying66
  a27 := Try.isAgg66
  z27 := Try.sizeOf66
  v27 := Try.zeroValue66
  t29 := Try.underlying9
  a29 := Try.isAgg9
  z29 := Try.sizeOf9
  v29 := Try.zeroValue9
  t32 := Try.underlying142
  a32 := Try.isAgg142
  z32 := Try.sizeOf142
  v32 := Try.zeroValue142
  t35 := Try.underlying153
  a35 := Try.isAgg153
  z35 := Try.sizeOf153
  v35 := Try.zeroValue153
  t36 := Try.underlying154
  a36 := Try.isAgg154
  z36 := Try.sizeOf154
  v36 := Try.zeroValue154
  t41 := Try.underlying158
  a41 := Try.isAgg158
  z41 := Try.sizeOf158
  v41 := Try.zeroValue158
  t44 := Try.underlying104
  a44 := Try.isAgg104
  z44 := Try.sizeOf104
  v44 := Try.zeroValue104
  t46 := Try.underlying93
  a46 := Try.isAgg93
  z46 := Try.sizeOf93
  v46 := Try.zeroValue93
  t53 := Try.underlying161
  a53 := Try.isAgg161
  z53 := Try.sizeOf161
  v53 := Try.zeroValue161
  t57 := Try.underlying165
  a57 := Try.isAgg165
  z57 := Try.sizeOf165
  v57 := Try.zeroValue165
  t63 := Try.underlying167
  a63 := Try.isAgg167
  z63 := Try.sizeOf167
  v63 := Try.zeroValue167
  t64 := Try.underlying168
  a64 := Try.isAgg168
  z64 := Try.sizeOf168
  v64 := Try.zeroValue168 }

end Go.Proofs.Ythobhkmphjnlaaa
