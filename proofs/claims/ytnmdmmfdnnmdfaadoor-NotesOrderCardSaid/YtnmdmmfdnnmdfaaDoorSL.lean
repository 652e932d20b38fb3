/-
  DERIVED: THE SHELF's CONTRACTS AT THIS DUMP, IN PLAIN WORDS (tools/lay-plain.mjs out of 'YtnmdmmfdnnmdfaaDoorShelf.lean', which tools/lay-shelf.mjs wrote): THE SAME DECLARATIONS UNDER THE SAME NAMES: 'import', 'namespace', 'open', 'def', 'theorem' AND NOTHING ELSE: no command of the shelf's: FOR A HAND-IN. Each laying: the table of numbers ('.._ren') and one theorem, a field a fact of the dump's own or the kernel's comparison; each contract: ONE APPLICATION.
-/
import Derived.Shelf.SlSortCmp.WholeK
import Derived.Test.YtnmdmmfdnnmdfaaDoorChecked
namespace Go.Proofs
open Go.Shelf
def Tryd.sortNote_ren : Go.Shelf.Ren := ⟨fun | 6 => 89 | 15 => 115 | 14 => 114 | 28 => 137 | 29 => 138 | 20 => 129 | 21 => 130 | 22 => 131 | 23 => 132 | 24 => 133 | 25 => 134 | 26 => 135 | 27 => 136 | 46 => 144 | 47 => 145 | 48 => 146 | 49 => 147 | 50 => 148 | 57 => 151 | n => n, fun | 22 => 24 | 24 => 55 | 25 => 138 | 3 => 3 | 39 => 151 | 0 => 0 | 53 => 171 | 55 => 173 | 4 => 4 | 46 => 165 | 45 => 164 | 50 => 100 | 5 => 5 | 9 => 9 | 66 => 176 | 70 => 180 | 76 => 182 | 77 => 183 | n => n, fun | n => n⟩
theorem Tryd.sortNote : Go.Proofs.SlLaysF0.n6 Tryd.prog Tryd.sortNote_ren := {
  mixed := by kernel_rfl
  f6 := ⟨Tryd.f89.name, by decide, Tryd.func89.trans (congrArg some (by kernel_rfl))⟩
  f14 := ⟨Tryd.f114.name, by decide, Tryd.func114.trans (congrArg some (by kernel_rfl))⟩
  f15 := Tryd.func115.trans (congrArg some (by kernel_rfl))
  f20 := ⟨Tryd.f129.name, by decide, Tryd.func129.trans (congrArg some (by kernel_rfl))⟩
  f21 := ⟨Tryd.f130.name, by decide, Tryd.func130.trans (congrArg some (by kernel_rfl))⟩
  f22 := ⟨Tryd.f131.name, by decide, Tryd.func131.trans (congrArg some (by kernel_rfl))⟩
  f23 := ⟨Tryd.f132.name, by decide, Tryd.func132.trans (congrArg some (by kernel_rfl))⟩
  f24 := ⟨Tryd.f133.name, by decide, Tryd.func133.trans (congrArg some (by kernel_rfl))⟩
  f25 := ⟨Tryd.f134.name, by decide, Tryd.func134.trans (congrArg some (by kernel_rfl))⟩
  f26 := ⟨Tryd.f135.name, by decide, Tryd.func135.trans (congrArg some (by kernel_rfl))⟩
  f27 := ⟨Tryd.f136.name, by decide, Tryd.func136.trans (congrArg some (by kernel_rfl))⟩
  f28 := Tryd.func137.trans (congrArg some (by kernel_rfl))
  f29 := Tryd.func138.trans (congrArg some (by kernel_rfl))
  f46 := ⟨Tryd.f144.name, by decide, Tryd.func144.trans (congrArg some (by kernel_rfl))⟩
  f47 := Tryd.func145.trans (congrArg some (by kernel_rfl))
  f48 := Tryd.func146.trans (congrArg some (by kernel_rfl))
  f49 := ⟨Tryd.f147.name, by decide, Tryd.func147.trans (congrArg some (by kernel_rfl))⟩
  f50 := ⟨Tryd.f148.name, by decide, Tryd.func148.trans (congrArg some (by kernel_rfl))⟩
  f57 := ⟨Tryd.f151.name, by decide, Tryd.func151.trans (congrArg some (by kernel_rfl))⟩
  t0 := Tryd.underlying0
  a0 := Tryd.isAgg0
  z0 := Tryd.sizeOf0
  v0 := Tryd.zeroValue0
  t3 := Tryd.underlying3
  a3 := Tryd.isAgg3
  z3 := Tryd.sizeOf3
  v3 := Tryd.zeroValue3
  t4 := Tryd.underlying4
  a4 := Tryd.isAgg4
  z4 := Tryd.sizeOf4
  v4 := Tryd.zeroValue4
  t5 := Tryd.underlying5
  a5 := Tryd.isAgg5
  z5 := Tryd.sizeOf5
  v5 := Tryd.zeroValue5
  t9 := Tryd.underlying9
  a9 := Tryd.isAgg9
  z9 := Tryd.sizeOf9
  v9 := Tryd.zeroValue9
  t22 := Tryd.underlying24
  a22 := Tryd.isAgg24
  z22 := Tryd.sizeOf24
  v22 := Tryd.zeroValue24
  t25 := Tryd.underlying138
  a25 := Tryd.isAgg138
  z25 := Tryd.sizeOf138
  v25 := Tryd.zeroValue138
  t39 := Tryd.underlying151
  a39 := Tryd.isAgg151
  z39 := Tryd.sizeOf151
  v39 := Tryd.zeroValue151
  t45 := Tryd.underlying164
  a45 := Tryd.isAgg164
  z45 := Tryd.sizeOf164
  v45 := Tryd.zeroValue164
  t46 := Tryd.underlying165
  a46 := Tryd.isAgg165
  z46 := Tryd.sizeOf165
  v46 := Tryd.zeroValue165
  t50 := Tryd.underlying100
  a50 := Tryd.isAgg100
  z50 := Tryd.sizeOf100
  v50 := Tryd.zeroValue100
  t53 := Tryd.underlying171
  a53 := Tryd.isAgg171
  z53 := Tryd.sizeOf171
  v53 := Tryd.zeroValue171
  t55 := Tryd.underlying173
  a55 := Tryd.isAgg173
  z55 := Tryd.sizeOf173
  v55 := Tryd.zeroValue173
  t66 := Tryd.underlying176
  a66 := Tryd.isAgg176
  z66 := Tryd.sizeOf176
  v66 := Tryd.zeroValue176
  t70 := Tryd.underlying180
  a70 := Tryd.isAgg180
  z70 := Tryd.sizeOf180
  v70 := Tryd.zeroValue180
  t76 := Tryd.underlying182
  a76 := Tryd.isAgg182
  z76 := Tryd.sizeOf182
  v76 := Tryd.zeroValue182
  t77 := Tryd.underlying183
  a77 := Tryd.isAgg183
  z77 := Tryd.sizeOf183
  v77 := Tryd.zeroValue183 }
end Go.Proofs
