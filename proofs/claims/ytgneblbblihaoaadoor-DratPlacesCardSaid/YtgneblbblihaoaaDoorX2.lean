/- Parts of the proof, one behind another. -/
import Derived.Shelf.SlSortCmp.NoneTotal
import Derived.Shelf.SlicesG.Cmp
import Derived.Ground.SlsfProg
import Derived.Ground.SlgcProg
import Derived.Test.YtgneblbblihaoaaDoorProg
set_option linter.all false
/-
  DERIVED: THE SHELF's CONTRACTS AT THIS DUMP, IN PLAIN WORDS (tools/lay-plain.mjs out of 'TrydsShelf.lean', which tools/lay-shelf.mjs wrote): THE SAME DECLARATIONS UNDER THE SAME NAMES: 'import', 'namespace', 'open', 'def', 'theorem' AND NOTHING ELSE: no command of the shelf's: FOR A HAND-IN. Each laying: the table of numbers ('.._ren') and one theorem, a field a fact of the dump's own or the kernel's comparison; each contract: ONE APPLICATION.
-/
namespace Go.Proofs
open Go.Shelf
def Tryd.sortF_ren : Go.Shelf.Ren := ⟨fun | 6 => 154 | 15 => 117 | 14 => 169 | 28 => 150 | 29 => 151 | 20 => 175 | 21 => 176 | 22 => 177 | 23 => 178 | 24 => 179 | 25 => 180 | 26 => 181 | 27 => 182 | 46 => 183 | 47 => 164 | 48 => 165 | 49 => 184 | 50 => 185 | 57 => 186 | n => n, fun | 22 => 30 | 24 => 3 | 25 => 54 | 3 => 3 | 39 => 117 | 0 => 0 | 53 => 195 | 55 => 197 | 4 => 4 | 46 => 190 | 45 => 189 | 50 => 185 | 5 => 5 | 9 => 9 | 66 => 205 | 70 => 209 | 76 => 214 | 77 => 176 | n => n, fun | n => n⟩
theorem Tryd.sortF : Go.Proofs.SlLaysF.n6 Tryd.prog Tryd.sortF_ren := {
  mixed := by kernel_rfl
  f6 := ⟨Tryd.f154.name, by decide, Tryd.func154.trans (congrArg some (by kernel_rfl))⟩
  f14 := ⟨Tryd.f169.name, by decide, Tryd.func169.trans (congrArg some (by kernel_rfl))⟩
  f15 := Tryd.func117.trans (congrArg some (by kernel_rfl))
  f20 := ⟨Tryd.f175.name, by decide, Tryd.func175.trans (congrArg some (by kernel_rfl))⟩
  f21 := ⟨Tryd.f176.name, by decide, Tryd.func176.trans (congrArg some (by kernel_rfl))⟩
  f22 := ⟨Tryd.f177.name, by decide, Tryd.func177.trans (congrArg some (by kernel_rfl))⟩
  f23 := ⟨Tryd.f178.name, by decide, Tryd.func178.trans (congrArg some (by kernel_rfl))⟩
  f24 := ⟨Tryd.f179.name, by decide, Tryd.func179.trans (congrArg some (by kernel_rfl))⟩
  f25 := ⟨Tryd.f180.name, by decide, Tryd.func180.trans (congrArg some (by kernel_rfl))⟩
  f26 := ⟨Tryd.f181.name, by decide, Tryd.func181.trans (congrArg some (by kernel_rfl))⟩
  f27 := ⟨Tryd.f182.name, by decide, Tryd.func182.trans (congrArg some (by kernel_rfl))⟩
  f28 := Tryd.func150.trans (congrArg some (by kernel_rfl))
  f29 := Tryd.func151.trans (congrArg some (by kernel_rfl))
  f46 := ⟨Tryd.f183.name, by decide, Tryd.func183.trans (congrArg some (by kernel_rfl))⟩
  f47 := Tryd.func164.trans (congrArg some (by kernel_rfl))
  f48 := Tryd.func165.trans (congrArg some (by kernel_rfl))
  f49 := ⟨Tryd.f184.name, by decide, Tryd.func184.trans (congrArg some (by kernel_rfl))⟩
  f50 := ⟨Tryd.f185.name, by decide, Tryd.func185.trans (congrArg some (by kernel_rfl))⟩
  f57 := ⟨Tryd.f186.name, by decide, Tryd.func186.trans (congrArg some (by kernel_rfl))⟩
  t0 := Tryd.underlying0
  a0 := Tryd.isAgg0
  z0 := Tryd.sizeOf0
  v0 := Tryd.zeroValue0
  t3 := Tryd.underlying3
  a3 := Tryd.isAgg3
  z3 := Tryd.sizeOf3
  v3 := Tryd.zeroValue3
  t4 := Tryd.underlying4
  a4 := Tryd.isAgg4
  z4 := Tryd.sizeOf4
  v4 := Tryd.zeroValue4
  t5 := Tryd.underlying5
  a5 := Tryd.isAgg5
  z5 := Tryd.sizeOf5
  v5 := Tryd.zeroValue5
  t9 := Tryd.underlying9
  a9 := Tryd.isAgg9
  z9 := Tryd.sizeOf9
  v9 := Tryd.zeroValue9
  t22 := Tryd.underlying30
  a22 := Tryd.isAgg30
  z22 := Tryd.sizeOf30
  v22 := Tryd.zeroValue30
  a24 := Tryd.isAgg3
  z24 := Tryd.sizeOf3
  t25 := Tryd.underlying54
  a25 := Tryd.isAgg54
  z25 := Tryd.sizeOf54
  v25 := Tryd.zeroValue54
  t39 := Tryd.underlying117
  a39 := Tryd.isAgg117
  z39 := Tryd.sizeOf117
  v39 := Tryd.zeroValue117
  t45 := Tryd.underlying189
  a45 := Tryd.isAgg189
  z45 := Tryd.sizeOf189
  v45 := Tryd.zeroValue189
  t46 := Tryd.underlying190
  a46 := Tryd.isAgg190
  z46 := Tryd.sizeOf190
  v46 := Tryd.zeroValue190
  t50 := Tryd.underlying185
  a50 := Tryd.isAgg185
  z50 := Tryd.sizeOf185
  v50 := Tryd.zeroValue185
  t53 := Tryd.underlying195
  a53 := Tryd.isAgg195
  z53 := Tryd.sizeOf195
  v53 := Tryd.zeroValue195
  t55 := Tryd.underlying197
  a55 := Tryd.isAgg197
  z55 := Tryd.sizeOf197
  v55 := Tryd.zeroValue197
  t66 := Tryd.underlying205
  a66 := Tryd.isAgg205
  z66 := Tryd.sizeOf205
  v66 := Tryd.zeroValue205
  t70 := Tryd.underlying209
  a70 := Tryd.isAgg209
  z70 := Tryd.sizeOf209
  v70 := Tryd.zeroValue209
  t76 := Tryd.underlying214
  a76 := Tryd.isAgg214
  z76 := Tryd.sizeOf214
  v76 := Tryd.zeroValue214
  t77 := Tryd.underlying176
  a77 := Tryd.isAgg176
  z77 := Tryd.sizeOf176
  v77 := Tryd.zeroValue176 }
def Tryd.cmpL_ren : Go.Shelf.Ren := ⟨fun | 5 => 171 | 7 => 168 | n => n, fun | 22 => 3 | 3 => 3 | 4 => 4 | n => n, fun | n => n⟩
theorem Tryd.cmpL : Go.Proofs.SlLaysC2.n5 Tryd.prog Tryd.cmpL_ren := {
  mixed := by kernel_rfl
  f5 := ⟨Tryd.f171.name, by decide, Tryd.func171.trans (congrArg some (by kernel_rfl))⟩
  f7 := ⟨Tryd.f168.name, by decide, Tryd.func168.trans (congrArg some (by kernel_rfl))⟩
  t3 := Tryd.underlying3
  a3 := Tryd.isAgg3
  z3 := Tryd.sizeOf3
  v3 := Tryd.zeroValue3
  t4 := Tryd.underlying4
  a4 := Tryd.isAgg4
  z4 := Tryd.sizeOf4
  v4 := Tryd.zeroValue4
  t22 := Tryd.underlying3
  a22 := Tryd.isAgg3
  z22 := Tryd.sizeOf3
  v22 := Tryd.zeroValue3 }
end Go.Proofs
