import Derived.Shelf.SlGeneric
import Derived.Shelf.SlLaysF0
import Derived.Ground.SlsfProg
import Derived.Test.YtpgbnjneoejebaaProg
/-! The library's functions at this program, laid on the shelf's contracts (written by a tool of the kit). -/
namespace Go.Proofs
open Go.Shelf
def Try.sortValues_ren : Go.Shelf.Ren := ⟨fun | 6 => 96 | 15 => 109 | 14 => 115 | 28 => 130 | 29 => 131 | 20 => 133 | 21 => 134 | 22 => 135 | 23 => 136 | 24 => 137 | 25 => 138 | 26 => 139 | 27 => 140 | 46 => 147 | 47 => 143 | 48 => 144 | 49 => 148 | 50 => 149 | 57 => 152 | n => n, fun | 22 => 24 | 24 => 35 | 25 => 175 | 3 => 3 | 39 => 187 | 0 => 0 | 53 => 204 | 55 => 83 | 4 => 4 | 46 => 198 | 45 => 197 | 50 => 147 | 5 => 5 | 9 => 9 | 66 => 213 | 70 => 217 | 76 => 221 | 77 => 156 | n => n, fun | n => n⟩
theorem Try.sortValues : Go.Proofs.SlLaysF0.n6 Try.prog Try.sortValues_ren := {
  mixed := by kernel_rfl
  f6 := ⟨Try.f96.name, by decide, Try.func96.trans (congrArg some (by kernel_rfl))⟩
  f14 := ⟨Try.f115.name, by decide, Try.func115.trans (congrArg some (by kernel_rfl))⟩
  f15 := Try.func109.trans (congrArg some (by kernel_rfl))
  f20 := ⟨Try.f133.name, by decide, Try.func133.trans (congrArg some (by kernel_rfl))⟩
  f21 := ⟨Try.f134.name, by decide, Try.func134.trans (congrArg some (by kernel_rfl))⟩
  f22 := ⟨Try.f135.name, by decide, Try.func135.trans (congrArg some (by kernel_rfl))⟩
  f23 := ⟨Try.f136.name, by decide, Try.func136.trans (congrArg some (by kernel_rfl))⟩
  f24 := ⟨Try.f137.name, by decide, Try.func137.trans (congrArg some (by kernel_rfl))⟩
  f25 := ⟨Try.f138.name, by decide, Try.func138.trans (congrArg some (by kernel_rfl))⟩
  f26 := ⟨Try.f139.name, by decide, Try.func139.trans (congrArg some (by kernel_rfl))⟩
  f27 := ⟨Try.f140.name, by decide, Try.func140.trans (congrArg some (by kernel_rfl))⟩
  f28 := Try.func130.trans (congrArg some (by kernel_rfl))
  f29 := Try.func131.trans (congrArg some (by kernel_rfl))
  f46 := ⟨Try.f147.name, by decide, Try.func147.trans (congrArg some (by kernel_rfl))⟩
  f47 := Try.func143.trans (congrArg some (by kernel_rfl))
  f48 := Try.func144.trans (congrArg some (by kernel_rfl))
  f49 := ⟨Try.f148.name, by decide, Try.func148.trans (congrArg some (by kernel_rfl))⟩
  f50 := ⟨Try.f149.name, by decide, Try.func149.trans (congrArg some (by kernel_rfl))⟩
  f57 := ⟨Try.f152.name, by decide, Try.func152.trans (congrArg some (by kernel_rfl))⟩
  t0 := Try.underlying0
  a0 := Try.isAgg0
  z0 := Try.sizeOf0
  v0 := Try.zeroValue0
  t3 := Try.underlying3
  a3 := Try.isAgg3
  z3 := Try.sizeOf3
  v3 := Try.zeroValue3
  t4 := Try.underlying4
  a4 := Try.isAgg4
  z4 := Try.sizeOf4
  v4 := Try.zeroValue4
  t5 := Try.underlying5
  a5 := Try.isAgg5
  z5 := Try.sizeOf5
  v5 := Try.zeroValue5
  t9 := Try.underlying9
  a9 := Try.isAgg9
  z9 := Try.sizeOf9
  v9 := Try.zeroValue9
  t22 := Try.underlying24
  a22 := Try.isAgg24
  z22 := Try.sizeOf24
  v22 := Try.zeroValue24
  t25 := Try.underlying175
  a25 := Try.isAgg175
  z25 := Try.sizeOf175
  v25 := Try.zeroValue175
  t39 := Try.underlying187
  a39 := Try.isAgg187
  z39 := Try.sizeOf187
  v39 := Try.zeroValue187
  t45 := Try.underlying197
  a45 := Try.isAgg197
  z45 := Try.sizeOf197
  v45 := Try.zeroValue197
  t46 := Try.underlying198
  a46 := Try.isAgg198
  z46 := Try.sizeOf198
  v46 := Try.zeroValue198
  t50 := Try.underlying147
  a50 := Try.isAgg147
  z50 := Try.sizeOf147
  v50 := Try.zeroValue147
  t53 := Try.underlying204
  a53 := Try.isAgg204
  z53 := Try.sizeOf204
  v53 := Try.zeroValue204
  t55 := Try.underlying83
  a55 := Try.isAgg83
  z55 := Try.sizeOf83
  v55 := Try.zeroValue83
  t66 := Try.underlying213
  a66 := Try.isAgg213
  z66 := Try.sizeOf213
  v66 := Try.zeroValue213
  t70 := Try.underlying217
  a70 := Try.isAgg217
  z70 := Try.sizeOf217
  v70 := Try.zeroValue217
  t76 := Try.underlying221
  a76 := Try.isAgg221
  z76 := Try.sizeOf221
  v76 := Try.zeroValue221
  t77 := Try.underlying156
  a77 := Try.isAgg156
  z77 := Try.sizeOf156
  v77 := Try.zeroValue156 }
end Go.Proofs
