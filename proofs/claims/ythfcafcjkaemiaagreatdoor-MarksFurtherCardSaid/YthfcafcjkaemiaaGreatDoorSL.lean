/-
  DERIVED: THE SHELF's CONTRACTS AT THIS DUMP, IN PLAIN WORDS (tools/lay-plain.mjs out of 'YthfcafcjkaemiaaGreatDoorShelf.lean', which tools/lay-shelf.mjs wrote): THE SAME DECLARATIONS UNDER THE SAME NAMES: 'import', 'namespace', 'open', 'def', 'theorem' AND NOTHING ELSE: no command of the shelf's: FOR A HAND-IN. Each laying: the table of numbers ('.._ren') and one theorem, a field a fact of the dump's own or the kernel's comparison; each contract: ONE APPLICATION.
-/
import Derived.Shelf.SlSortCmp.WholeK
import Derived.Test.YthfcafcjkaemiaaGreatDoorChecked
namespace Go.Proofs
open Go.Shelf
def Tryz.sortNote_ren : Go.Shelf.Ren := ⟨fun | 6 => 164 | 15 => 178 | 14 => 177 | 28 => 192 | 29 => 193 | 20 => 184 | 21 => 185 | 22 => 186 | 23 => 187 | 24 => 188 | 25 => 189 | 26 => 190 | 27 => 191 | 46 => 198 | 47 => 199 | 48 => 200 | 49 => 201 | 50 => 202 | 57 => 204 | n => n, fun | 22 => 24 | 24 => 32 | 25 => 182 | 3 => 3 | 39 => 189 | 0 => 0 | 53 => 203 | 55 => 205 | 4 => 4 | 46 => 197 | 45 => 196 | 50 => 107 | 5 => 5 | 9 => 9 | 66 => 206 | 70 => 210 | 76 => 214 | 77 => 215 | n => n, fun | n => n⟩
theorem Tryz.sortNote : Go.Proofs.SlLaysF0.n6 Tryz.prog Tryz.sortNote_ren := {
  mixed := by kernel_rfl
  f6 := ⟨Tryz.f164.name, by decide, Tryz.func164.trans (congrArg some (by kernel_rfl))⟩
  f14 := ⟨Tryz.f177.name, by decide, Tryz.func177.trans (congrArg some (by kernel_rfl))⟩
  f15 := Tryz.func178.trans (congrArg some (by kernel_rfl))
  f20 := ⟨Tryz.f184.name, by decide, Tryz.func184.trans (congrArg some (by kernel_rfl))⟩
  f21 := ⟨Tryz.f185.name, by decide, Tryz.func185.trans (congrArg some (by kernel_rfl))⟩
  f22 := ⟨Tryz.f186.name, by decide, Tryz.func186.trans (congrArg some (by kernel_rfl))⟩
  f23 := ⟨Tryz.f187.name, by decide, Tryz.func187.trans (congrArg some (by kernel_rfl))⟩
  f24 := ⟨Tryz.f188.name, by decide, Tryz.func188.trans (congrArg some (by kernel_rfl))⟩
  f25 := ⟨Tryz.f189.name, by decide, Tryz.func189.trans (congrArg some (by kernel_rfl))⟩
  f26 := ⟨Tryz.f190.name, by decide, Tryz.func190.trans (congrArg some (by kernel_rfl))⟩
  f27 := ⟨Tryz.f191.name, by decide, Tryz.func191.trans (congrArg some (by kernel_rfl))⟩
  f28 := Tryz.func192.trans (congrArg some (by kernel_rfl))
  f29 := Tryz.func193.trans (congrArg some (by kernel_rfl))
  f46 := ⟨Tryz.f198.name, by decide, Tryz.func198.trans (congrArg some (by kernel_rfl))⟩
  f47 := Tryz.func199.trans (congrArg some (by kernel_rfl))
  f48 := Tryz.func200.trans (congrArg some (by kernel_rfl))
  f49 := ⟨Tryz.f201.name, by decide, Tryz.func201.trans (congrArg some (by kernel_rfl))⟩
  f50 := ⟨Tryz.f202.name, by decide, Tryz.func202.trans (congrArg some (by kernel_rfl))⟩
  f57 := ⟨Tryz.f204.name, by decide, Tryz.func204.trans (congrArg some (by kernel_rfl))⟩
  t0 := Tryz.underlying0
  a0 := Tryz.isAgg0
  z0 := Tryz.sizeOf0
  v0 := Tryz.zeroValue0
  t3 := Tryz.underlying3
  a3 := Tryz.isAgg3
  z3 := Tryz.sizeOf3
  v3 := Tryz.zeroValue3
  t4 := Tryz.underlying4
  a4 := Tryz.isAgg4
  z4 := Tryz.sizeOf4
  v4 := Tryz.zeroValue4
  t5 := Tryz.underlying5
  a5 := Tryz.isAgg5
  z5 := Tryz.sizeOf5
  v5 := Tryz.zeroValue5
  t9 := Tryz.underlying9
  a9 := Tryz.isAgg9
  z9 := Tryz.sizeOf9
  v9 := Tryz.zeroValue9
  t22 := Tryz.underlying24
  a22 := Tryz.isAgg24
  z22 := Tryz.sizeOf24
  v22 := Tryz.zeroValue24
  t25 := Tryz.underlying182
  a25 := Tryz.isAgg182
  z25 := Tryz.sizeOf182
  v25 := Tryz.zeroValue182
  t39 := Tryz.underlying189
  a39 := Tryz.isAgg189
  z39 := Tryz.sizeOf189
  v39 := Tryz.zeroValue189
  t45 := Tryz.underlying196
  a45 := Tryz.isAgg196
  z45 := Tryz.sizeOf196
  v45 := Tryz.zeroValue196
  t46 := Tryz.underlying197
  a46 := Tryz.isAgg197
  z46 := Tryz.sizeOf197
  v46 := Tryz.zeroValue197
  t50 := Tryz.underlying107
  a50 := Tryz.isAgg107
  z50 := Tryz.sizeOf107
  v50 := Tryz.zeroValue107
  t53 := Tryz.underlying203
  a53 := Tryz.isAgg203
  z53 := Tryz.sizeOf203
  v53 := Tryz.zeroValue203
  t55 := Tryz.underlying205
  a55 := Tryz.isAgg205
  z55 := Tryz.sizeOf205
  v55 := Tryz.zeroValue205
  t66 := Tryz.underlying206
  a66 := Tryz.isAgg206
  z66 := Tryz.sizeOf206
  v66 := Tryz.zeroValue206
  t70 := Tryz.underlying210
  a70 := Tryz.isAgg210
  z70 := Tryz.sizeOf210
  v70 := Tryz.zeroValue210
  t76 := Tryz.underlying214
  a76 := Tryz.isAgg214
  z76 := Tryz.sizeOf214
  v76 := Tryz.zeroValue214
  t77 := Tryz.underlying215
  a77 := Tryz.isAgg215
  z77 := Tryz.sizeOf215
  v77 := Tryz.zeroValue215 }
end Go.Proofs
