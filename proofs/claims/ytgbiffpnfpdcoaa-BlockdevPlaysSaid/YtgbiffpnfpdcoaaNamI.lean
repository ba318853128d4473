/- What the library says of slices.Sorted, maps.Keys and slices.Sort at ints, laid at this program. -/
import Derived.Shelf.SlIterI.Nil
import Derived.Shelf.SortM.Plain
import Derived.Shelf.SortM.SortNone
import Derived.Ground.GgzProg
import Derived.Ground.SlgmProg
import Derived.Test.YtgbiffpnfpdcoaaChecked
namespace Go.Proofs.Ytgbiffpnfpdcoaa
open Go.Shelf
set_option linter.unusedVariables false

def keysI_ren : Go.Shelf.Ren := ⟨fun | 7 => 58 | 10 => 86 | n => n, fun | 23 => 90 | 26 => 3 | 3 => 89 | 28 => 105 | 0 => 0 | 27 => 104 | 33 => 132 | 4 => 4 | n => n, fun | n => n⟩
theorem keysI : Go.Proofs.SlLaysZI.n7 Try.prog keysI_ren := {
  mixed := by kernel_rfl
  f7 := ⟨Try.f58.name, by decide, Try.func58.trans (congrArg some (by kernel_rfl))⟩
  f10 := ⟨Try.f86.name, by decide, Try.func86.trans (congrArg some (by kernel_rfl))⟩
  t0 := Try.underlying0
  a0 := Try.isAgg0
  z0 := Try.sizeOf0
  v0 := Try.zeroValue0
  t4 := Try.underlying4
  a4 := Try.isAgg4
  z4 := Try.sizeOf4
  v4 := Try.zeroValue4
  t23 := Try.underlying90
  a23 := Try.isAgg90
  z23 := Try.sizeOf90
  v23 := Try.zeroValue90
  t26 := Try.underlying3
  a26 := Try.isAgg3
  z26 := Try.sizeOf3
  v26 := Try.zeroValue3
  t27 := Try.underlying104
  a27 := Try.isAgg104
  z27 := Try.sizeOf104
  v27 := Try.zeroValue104
  t28 := Try.underlying105
  a28 := Try.isAgg105
  z28 := Try.sizeOf105
  v28 := Try.zeroValue105
  t33 := Try.underlying132
  a33 := Try.isAgg132
  z33 := Try.sizeOf132
  v33 := Try.zeroValue132 }

def sortedI_ren : Go.Shelf.Ren := ⟨fun | 6 => 57 | 8 => 84 | 9 => 85 | 11 => 96 | 13 => 98 | 12 => 97 | 23 => 110 | 24 => 111 | 14 => 101 | 15 => 102 | 16 => 103 | 17 => 104 | 18 => 105 | 19 => 106 | 20 => 107 | 21 => 108 | 22 => 109 | 25 => 112 | 26 => 113 | 27 => 114 | 28 => 115 | 29 => 116 | 30 => 117 | 31 => 118 | n => n, fun | 26 => 3 | 28 => 105 | 24 => 33 | 0 => 0 | 3 => 3 | 37 => 146 | 48 => 144 | 50 => 113 | 4 => 4 | 40 => 156 | 39 => 155 | 45 => 160 | 5 => 5 | 9 => 9 | 51 => 164 | 55 => 168 | 57 => 170 | 58 => 171 | 33 => 132 | n => n, fun | n => n⟩
theorem sortedI : Go.Proofs.SlLaysZI.n6 Try.prog sortedI_ren := {
  mixed := by kernel_rfl
  f6 := ⟨Try.f57.name, by decide, Try.func57.trans (congrArg some (by kernel_rfl))⟩
  f8 := ⟨Try.f84.name, by decide, Try.func84.trans (congrArg some (by kernel_rfl))⟩
  f11 := ⟨Try.f96.name, by decide, Try.func96.trans (congrArg some (by kernel_rfl))⟩
  t0 := Try.underlying0
  a0 := Try.isAgg0
  z0 := Try.sizeOf0
  v0 := Try.zeroValue0
  t24 := Try.underlying33
  a24 := Try.isAgg33
  z24 := Try.sizeOf33
  v24 := Try.zeroValue33
  t26 := Try.underlying3
  a26 := Try.isAgg3
  z26 := Try.sizeOf3
  v26 := Try.zeroValue3
  t28 := Try.underlying105
  a28 := Try.isAgg105
  z28 := Try.sizeOf105
  v28 := Try.zeroValue105
  i26 := by kernel_rfl }

def sortI_ren : Go.Shelf.Ren := ⟨fun | 5 => 85 | 8 => 98 | 7 => 97 | 19 => 110 | 20 => 111 | 10 => 101 | 11 => 102 | 12 => 103 | 13 => 104 | 14 => 105 | 15 => 106 | 16 => 107 | 17 => 108 | 18 => 109 | 30 => 112 | 31 => 113 | 32 => 114 | 33 => 115 | 34 => 116 | 35 => 117 | 40 => 118 | n => n, fun | 23 => 33 | 25 => 3 | 3 => 3 | 32 => 146 | 22 => 33 | 0 => 0 | 44 => 144 | 46 => 113 | 4 => 4 | 36 => 156 | 35 => 155 | 41 => 160 | 5 => 5 | 9 => 9 | 53 => 164 | 57 => 168 | 63 => 170 | 64 => 171 | n => n, fun | n => n⟩
theorem sortI : Go.Proofs.SlLaysM.n5 Try.prog sortI_ren := {
  mixed := by kernel_rfl
  f5 := ⟨Try.f85.name, by decide, Try.func85.trans (congrArg some (by kernel_rfl))⟩
  f7 := ⟨Try.f97.name, by decide, Try.func97.trans (congrArg some (by kernel_rfl))⟩
  f8 := Try.func98.trans (congrArg some (by kernel_rfl))
  f10 := ⟨Try.f101.name, by decide, Try.func101.trans (congrArg some (by kernel_rfl))⟩
  f11 := ⟨Try.f102.name, by decide, Try.func102.trans (congrArg some (by kernel_rfl))⟩
  f12 := ⟨Try.f103.name, by decide, Try.func103.trans (congrArg some (by kernel_rfl))⟩
  f13 := ⟨Try.f104.name, by decide, Try.func104.trans (congrArg some (by kernel_rfl))⟩
  f14 := ⟨Try.f105.name, by decide, Try.func105.trans (congrArg some (by kernel_rfl))⟩
  f15 := ⟨Try.f106.name, by decide, Try.func106.trans (congrArg some (by kernel_rfl))⟩
  f16 := ⟨Try.f107.name, by decide, Try.func107.trans (congrArg some (by kernel_rfl))⟩
  f17 := ⟨Try.f108.name, by decide, Try.func108.trans (congrArg some (by kernel_rfl))⟩
  f18 := ⟨Try.f109.name, by decide, Try.func109.trans (congrArg some (by kernel_rfl))⟩
  f19 := Try.func110.trans (congrArg some (by kernel_rfl))
  f20 := Try.func111.trans (congrArg some (by kernel_rfl))
  f30 := ⟨Try.f112.name, by decide, Try.func112.trans (congrArg some (by kernel_rfl))⟩
  f31 := Try.func113.trans (congrArg some (by kernel_rfl))
  f32 := Try.func114.trans (congrArg some (by kernel_rfl))
  f33 := ⟨Try.f115.name, by decide, Try.func115.trans (congrArg some (by kernel_rfl))⟩
  f34 := ⟨Try.f116.name, by decide, Try.func116.trans (congrArg some (by kernel_rfl))⟩
  f35 := ⟨Try.f117.name, by decide, Try.func117.trans (congrArg some (by kernel_rfl))⟩
  f40 := ⟨Try.f118.name, by decide, Try.func118.trans (congrArg some (by kernel_rfl))⟩
  t0 := Try.underlying0
  a0 := Try.isAgg0
  z0 := Try.sizeOf0
  v0 := Try.zeroValue0
  t3 := Try.underlying3
  a3 := Try.isAgg3
  z3 := Try.sizeOf3
  v3 := Try.zeroValue3
  t4 := Try.underlying4
  a4 := Try.isAgg4
  z4 := Try.sizeOf4
  v4 := Try.zeroValue4
  t5 := Try.underlying5
  a5 := Try.isAgg5
  z5 := Try.sizeOf5
  v5 := Try.zeroValue5
  t9 := Try.underlying9
  a9 := Try.isAgg9
  z9 := Try.sizeOf9
  v9 := Try.zeroValue9
  t22 := Try.underlying33
  a22 := Try.isAgg33
  z22 := Try.sizeOf33
  v22 := Try.zeroValue33
  t23 := Try.underlying33
  a23 := Try.isAgg33
  z23 := Try.sizeOf33
  v23 := Try.zeroValue33
  t25 := Try.underlying3
  a25 := Try.isAgg3
  z25 := Try.sizeOf3
  v25 := Try.zeroValue3
  t32 := Try.underlying146
  a32 := Try.isAgg146
  z32 := Try.sizeOf146
  v32 := Try.zeroValue146
  t35 := Try.underlying155
  a35 := Try.isAgg155
  z35 := Try.sizeOf155
  v35 := Try.zeroValue155
  t36 := Try.underlying156
  a36 := Try.isAgg156
  z36 := Try.sizeOf156
  v36 := Try.zeroValue156
  t41 := Try.underlying160
  a41 := Try.isAgg160
  z41 := Try.sizeOf160
  v41 := Try.zeroValue160
  t44 := Try.underlying144
  a44 := Try.isAgg144
  z44 := Try.sizeOf144
  v44 := Try.zeroValue144
  t46 := Try.underlying113
  a46 := Try.isAgg113
  z46 := Try.sizeOf113
  v46 := Try.zeroValue113
  t53 := Try.underlying164
  a53 := Try.isAgg164
  z53 := Try.sizeOf164
  v53 := Try.zeroValue164
  t57 := Try.underlying168
  a57 := Try.isAgg168
  z57 := Try.sizeOf168
  v57 := Try.zeroValue168
  t63 := Try.underlying170
  a63 := Try.isAgg170
  z63 := Try.sizeOf170
  v63 := Try.zeroValue170
  t64 := Try.underlying171
  a64 := Try.isAgg171
  z64 := Try.sizeOf171
  v64 := Try.zeroValue171 }

end Go.Proofs.Ytgbiffpnfpdcoaa
