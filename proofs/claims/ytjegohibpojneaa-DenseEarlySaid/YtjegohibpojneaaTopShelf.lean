import Derived.Shelf.SlGeneric
import Derived.Shelf.SlLaysF0
import Derived.Ground.SlsfProg
import Derived.Test.YtjegohibpojneaaProg
/-! The library's functions at this program, laid on the shelf's contracts (written by a tool of the kit). -/
namespace Go.Proofs
open Go.Shelf
def Try.sortScored_ren : Go.Shelf.Ren := ⟨fun | 6 => 111 | 15 => 151 | 14 => 150 | 28 => 176 | 29 => 177 | 20 => 168 | 21 => 169 | 22 => 170 | 23 => 171 | 24 => 172 | 25 => 173 | 26 => 174 | 27 => 175 | 46 => 182 | 47 => 183 | 48 => 184 | 49 => 185 | 50 => 186 | 57 => 198 | n => n, fun | 22 => 85 | 24 => 89 | 25 => 183 | 3 => 3 | 39 => 214 | 0 => 0 | 53 => 224 | 55 => 213 | 4 => 4 | 46 => 243 | 45 => 242 | 50 => 210 | 5 => 5 | 9 => 9 | 66 => 265 | 70 => 268 | 76 => 277 | 77 => 80 | n => n, fun | n => n⟩
theorem Try.sortScored : Go.Proofs.SlLaysF0.n6 Try.prog Try.sortScored_ren := {
  mixed := by kernel_rfl
  f6 := ⟨Try.f111.name, by decide, Try.func111.trans (congrArg some (by kernel_rfl))⟩
  f14 := ⟨Try.f150.name, by decide, Try.func150.trans (congrArg some (by kernel_rfl))⟩
  f15 := Try.func151.trans (congrArg some (by kernel_rfl))
  f20 := ⟨Try.f168.name, by decide, Try.func168.trans (congrArg some (by kernel_rfl))⟩
  f21 := ⟨Try.f169.name, by decide, Try.func169.trans (congrArg some (by kernel_rfl))⟩
  f22 := ⟨Try.f170.name, by decide, Try.func170.trans (congrArg some (by kernel_rfl))⟩
  f23 := ⟨Try.f171.name, by decide, Try.func171.trans (congrArg some (by kernel_rfl))⟩
  f24 := ⟨Try.f172.name, by decide, Try.func172.trans (congrArg some (by kernel_rfl))⟩
  f25 := ⟨Try.f173.name, by decide, Try.func173.trans (congrArg some (by kernel_rfl))⟩
  f26 := ⟨Try.f174.name, by decide, Try.func174.trans (congrArg some (by kernel_rfl))⟩
  f27 := ⟨Try.f175.name, by decide, Try.func175.trans (congrArg some (by kernel_rfl))⟩
  f28 := Try.func176.trans (congrArg some (by kernel_rfl))
  f29 := Try.func177.trans (congrArg some (by kernel_rfl))
  f46 := ⟨Try.f182.name, by decide, Try.func182.trans (congrArg some (by kernel_rfl))⟩
  f47 := Try.func183.trans (congrArg some (by kernel_rfl))
  f48 := Try.func184.trans (congrArg some (by kernel_rfl))
  f49 := ⟨Try.f185.name, by decide, Try.func185.trans (congrArg some (by kernel_rfl))⟩
  f50 := ⟨Try.f186.name, by decide, Try.func186.trans (congrArg some (by kernel_rfl))⟩
  f57 := ⟨Try.f198.name, by decide, Try.func198.trans (congrArg some (by kernel_rfl))⟩
  t0 := Try.underlying0
  a0 := Try.isAgg0
  z0 := Try.sizeOf0
  v0 := Try.zeroValue0
  t3 := Try.underlying3
  a3 := Try.isAgg3
  z3 := Try.sizeOf3
  v3 := Try.zeroValue3
  t4 := Try.underlying4
  a4 := Try.isAgg4
  z4 := Try.sizeOf4
  v4 := Try.zeroValue4
  t5 := Try.underlying5
  a5 := Try.isAgg5
  z5 := Try.sizeOf5
  v5 := Try.zeroValue5
  t9 := Try.underlying9
  a9 := Try.isAgg9
  z9 := Try.sizeOf9
  v9 := Try.zeroValue9
  t22 := Try.underlying85
  a22 := Try.isAgg85
  z22 := Try.sizeOf85
  v22 := Try.zeroValue85
  t25 := Try.underlying183
  a25 := Try.isAgg183
  z25 := Try.sizeOf183
  v25 := Try.zeroValue183
  t39 := Try.underlying214
  a39 := Try.isAgg214
  z39 := Try.sizeOf214
  v39 := Try.zeroValue214
  t45 := Try.underlying242
  a45 := Try.isAgg242
  z45 := Try.sizeOf242
  v45 := Try.zeroValue242
  t46 := Try.underlying243
  a46 := Try.isAgg243
  z46 := Try.sizeOf243
  v46 := Try.zeroValue243
  t50 := Try.underlying210
  a50 := Try.isAgg210
  z50 := Try.sizeOf210
  v50 := Try.zeroValue210
  t53 := Try.underlying224
  a53 := Try.isAgg224
  z53 := Try.sizeOf224
  v53 := Try.zeroValue224
  t55 := Try.underlying213
  a55 := Try.isAgg213
  z55 := Try.sizeOf213
  v55 := Try.zeroValue213
  t66 := Try.underlying265
  a66 := Try.isAgg265
  z66 := Try.sizeOf265
  v66 := Try.zeroValue265
  t70 := Try.underlying268
  a70 := Try.isAgg268
  z70 := Try.sizeOf268
  v70 := Try.zeroValue268
  t76 := Try.underlying277
  a76 := Try.isAgg277
  z76 := Try.sizeOf277
  v76 := Try.zeroValue277
  t77 := Try.underlying80
  a77 := Try.isAgg80
  z77 := Try.sizeOf80
  v77 := Try.zeroValue80 }
end Go.Proofs
