/-
  DERIVED: THE SHELF's CONTRACTS AT THIS DUMP, IN PLAIN WORDS (tools/lay-plain.mjs out of 'YtjonnpjbibgjnaaGreatDoorShelf.lean', which tools/lay-shelf.mjs wrote): THE SAME DECLARATIONS UNDER THE SAME NAMES: 'import', 'namespace', 'open', 'def', 'theorem' AND NOTHING ELSE: no command of the shelf's: FOR A HAND-IN. Each laying: the table of numbers ('.._ren') and one theorem, a field a fact of the dump's own or the kernel's comparison; each contract: ONE APPLICATION.
-/
import Derived.Shelf.SlSortCmp.WholeK
import Derived.Test.YtjonnpjbibgjnaaGreatDoorChecked
set_option linter.unusedVariables false
set_option linter.unusedSimpArgs false
namespace Go.Proofs
open Go.Shelf
def Tryz.sortNote_ren : Go.Shelf.Ren := ⟨fun | 6 => 101 | 15 => 112 | 14 => 111 | 28 => 125 | 29 => 126 | 20 => 117 | 21 => 118 | 22 => 119 | 23 => 120 | 24 => 121 | 25 => 122 | 26 => 123 | 27 => 124 | 46 => 131 | 47 => 132 | 48 => 133 | 49 => 134 | 50 => 135 | 57 => 137 | n => n, fun | 22 => 24 | 24 => 41 | 25 => 122 | 3 => 3 | 39 => 127 | 0 => 0 | 53 => 140 | 55 => 142 | 4 => 4 | 46 => 134 | 45 => 133 | 50 => 70 | 5 => 5 | 9 => 9 | 66 => 143 | 70 => 147 | 76 => 151 | 77 => 152 | n => n, fun | n => n⟩
theorem Tryz.sortNote : Go.Proofs.SlLaysF0.n6 Tryz.prog Tryz.sortNote_ren := {
  mixed := by kernel_rfl
  f6 := ⟨Tryz.f101.name, by decide, Tryz.func101.trans (congrArg some (by kernel_rfl))⟩
  f14 := ⟨Tryz.f111.name, by decide, Tryz.func111.trans (congrArg some (by kernel_rfl))⟩
  f15 := Tryz.func112.trans (congrArg some (by kernel_rfl))
  f20 := ⟨Tryz.f117.name, by decide, Tryz.func117.trans (congrArg some (by kernel_rfl))⟩
  f21 := ⟨Tryz.f118.name, by decide, Tryz.func118.trans (congrArg some (by kernel_rfl))⟩
  f22 := ⟨Tryz.f119.name, by decide, Tryz.func119.trans (congrArg some (by kernel_rfl))⟩
  f23 := ⟨Tryz.f120.name, by decide, Tryz.func120.trans (congrArg some (by kernel_rfl))⟩
  f24 := ⟨Tryz.f121.name, by decide, Tryz.func121.trans (congrArg some (by kernel_rfl))⟩
  f25 := ⟨Tryz.f122.name, by decide, Tryz.func122.trans (congrArg some (by kernel_rfl))⟩
  f26 := ⟨Tryz.f123.name, by decide, Tryz.func123.trans (congrArg some (by kernel_rfl))⟩
  f27 := ⟨Tryz.f124.name, by decide, Tryz.func124.trans (congrArg some (by kernel_rfl))⟩
  f28 := Tryz.func125.trans (congrArg some (by kernel_rfl))
  f29 := Tryz.func126.trans (congrArg some (by kernel_rfl))
  f46 := ⟨Tryz.f131.name, by decide, Tryz.func131.trans (congrArg some (by kernel_rfl))⟩
  f47 := Tryz.func132.trans (congrArg some (by kernel_rfl))
  f48 := Tryz.func133.trans (congrArg some (by kernel_rfl))
  f49 := ⟨Tryz.f134.name, by decide, Tryz.func134.trans (congrArg some (by kernel_rfl))⟩
  f50 := ⟨Tryz.f135.name, by decide, Tryz.func135.trans (congrArg some (by kernel_rfl))⟩
  f57 := ⟨Tryz.f137.name, by decide, Tryz.func137.trans (congrArg some (by kernel_rfl))⟩
  t0 := Tryz.underlying0
  a0 := Tryz.isAgg0
  z0 := Tryz.sizeOf0
  v0 := Tryz.zeroValue0
  t3 := Tryz.underlying3
  a3 := Tryz.isAgg3
  z3 := Tryz.sizeOf3
  v3 := Tryz.zeroValue3
  t4 := Tryz.underlying4
  a4 := Tryz.isAgg4
  z4 := Tryz.sizeOf4
  v4 := Tryz.zeroValue4
  t5 := Tryz.underlying5
  a5 := Tryz.isAgg5
  z5 := Tryz.sizeOf5
  v5 := Tryz.zeroValue5
  t9 := Tryz.underlying9
  a9 := Tryz.isAgg9
  z9 := Tryz.sizeOf9
  v9 := Tryz.zeroValue9
  t22 := Tryz.underlying24
  a22 := Tryz.isAgg24
  z22 := Tryz.sizeOf24
  v22 := Tryz.zeroValue24
  t25 := Tryz.underlying122
  a25 := Tryz.isAgg122
  z25 := Tryz.sizeOf122
  v25 := Tryz.zeroValue122
  t39 := Tryz.underlying127
  a39 := Tryz.isAgg127
  z39 := Tryz.sizeOf127
  v39 := Tryz.zeroValue127
  t45 := Tryz.underlying133
  a45 := Tryz.isAgg133
  z45 := Tryz.sizeOf133
  v45 := Tryz.zeroValue133
  t46 := Tryz.underlying134
  a46 := Tryz.isAgg134
  z46 := Tryz.sizeOf134
  v46 := Tryz.zeroValue134
  t50 := Tryz.underlying70
  a50 := Tryz.isAgg70
  z50 := Tryz.sizeOf70
  v50 := Tryz.zeroValue70
  t53 := Tryz.underlying140
  a53 := Tryz.isAgg140
  z53 := Tryz.sizeOf140
  v53 := Tryz.zeroValue140
  t55 := Tryz.underlying142
  a55 := Tryz.isAgg142
  z55 := Tryz.sizeOf142
  v55 := Tryz.zeroValue142
  t66 := Tryz.underlying143
  a66 := Tryz.isAgg143
  z66 := Tryz.sizeOf143
  v66 := Tryz.zeroValue143
  t70 := Tryz.underlying147
  a70 := Tryz.isAgg147
  z70 := Tryz.sizeOf147
  v70 := Tryz.zeroValue147
  t76 := Tryz.underlying151
  a76 := Tryz.isAgg151
  z76 := Tryz.sizeOf151
  v76 := Tryz.zeroValue151
  t77 := Tryz.underlying152
  a77 := Tryz.isAgg152
  z77 := Tryz.sizeOf152
  v77 := Tryz.zeroValue152 }
end Go.Proofs
