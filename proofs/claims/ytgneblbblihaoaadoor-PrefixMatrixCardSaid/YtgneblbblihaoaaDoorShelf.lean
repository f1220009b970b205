/-
  DERIVED: THE SHELF's CONTRACTS AT THIS DUMP, IN PLAIN WORDS (tools/lay-plain.mjs out of 'YtgneblbblihaoaaDoorShelf.lean', which tools/lay-shelf.mjs wrote): THE SAME DECLARATIONS UNDER THE SAME NAMES: 'import', 'namespace', 'open', 'def', 'theorem' AND NOTHING ELSE: no command of the shelf's: FOR A HAND-IN. Each laying: the table of numbers ('.._ren') and one theorem, a field a fact of the dump's own or the kernel's comparison; each contract: ONE APPLICATION.
-/
import Derived.Shelf.Sort.Plain
import Derived.Test.YtgneblbblihaoaaDoorProg
set_option linter.all false
namespace Go.Proofs
open Go.Shelf
def Tryd.lays189_ren : Go.Shelf.Ren := ⟨fun | 189 => 93 | 125 => 117 | 257 => 116 | 128 => 150 | 129 => 151 | 294 => 141 | 295 => 142 | 296 => 143 | 297 => 144 | 298 => 145 | 299 => 146 | 216 => 147 | 300 => 148 | 301 => 149 | 328 => 163 | 329 => 164 | 330 => 165 | 331 => 166 | 332 => 167 | 215 => 168 | 343 => 174 | n => n, fun | 28 => 30 | 3 => 3 | 46 => 117 | 0 => 0 | 51 => 195 | 53 => 197 | 4 => 4 | 183 => 190 | 182 => 189 | 131 => 185 | 5 => 5 | 9 => 9 | 218 => 205 | 222 => 209 | 228 => 214 | 229 => 176 | n => n, fun | n => n⟩
theorem Tryd.lays189 : Go.Proofs.Lays.n189 Tryd.prog Tryd.lays189_ren := {
  mixed := by kernel_rfl
  f125 := Tryd.func117.trans (congrArg some (by kernel_rfl))
  f128 := Tryd.func150.trans (congrArg some (by kernel_rfl))
  f129 := Tryd.func151.trans (congrArg some (by kernel_rfl))
  f189 := Tryd.func93.trans (congrArg some (by kernel_rfl))
  f215 := Tryd.func168.trans (congrArg some (by kernel_rfl))
  f216 := Tryd.func147.trans (congrArg some (by kernel_rfl))
  f257 := Tryd.func116.trans (congrArg some (by kernel_rfl))
  f294 := Tryd.func141.trans (congrArg some (by kernel_rfl))
  f295 := Tryd.func142.trans (congrArg some (by kernel_rfl))
  f296 := Tryd.func143.trans (congrArg some (by kernel_rfl))
  f297 := Tryd.func144.trans (congrArg some (by kernel_rfl))
  f298 := Tryd.func145.trans (congrArg some (by kernel_rfl))
  f299 := Tryd.func146.trans (congrArg some (by kernel_rfl))
  f300 := Tryd.func148.trans (congrArg some (by kernel_rfl))
  f301 := Tryd.func149.trans (congrArg some (by kernel_rfl))
  f328 := Tryd.func163.trans (congrArg some (by kernel_rfl))
  f329 := Tryd.func164.trans (congrArg some (by kernel_rfl))
  f330 := Tryd.func165.trans (congrArg some (by kernel_rfl))
  f331 := Tryd.func166.trans (congrArg some (by kernel_rfl))
  f332 := Tryd.func167.trans (congrArg some (by kernel_rfl))
  f343 := Tryd.func174.trans (congrArg some (by kernel_rfl))
  t0 := Tryd.underlying0
  a0 := Tryd.isAgg0
  z0 := Tryd.sizeOf0
  v0 := Tryd.zeroValue0
  t3 := Tryd.underlying3
  a3 := Tryd.isAgg3
  z3 := Tryd.sizeOf3
  v3 := Tryd.zeroValue3
  t4 := Tryd.underlying4
  a4 := Tryd.isAgg4
  z4 := Tryd.sizeOf4
  v4 := Tryd.zeroValue4
  t5 := Tryd.underlying5
  a5 := Tryd.isAgg5
  z5 := Tryd.sizeOf5
  v5 := Tryd.zeroValue5
  t9 := Tryd.underlying9
  a9 := Tryd.isAgg9
  z9 := Tryd.sizeOf9
  v9 := Tryd.zeroValue9
  t28 := Tryd.underlying30
  a28 := Tryd.isAgg30
  z28 := Tryd.sizeOf30
  v28 := Tryd.zeroValue30
  t46 := Tryd.underlying117
  a46 := Tryd.isAgg117
  z46 := Tryd.sizeOf117
  v46 := Tryd.zeroValue117
  t51 := Tryd.underlying195
  a51 := Tryd.isAgg195
  z51 := Tryd.sizeOf195
  v51 := Tryd.zeroValue195
  t53 := Tryd.underlying197
  a53 := Tryd.isAgg197
  z53 := Tryd.sizeOf197
  v53 := Tryd.zeroValue197
  t131 := Tryd.underlying185
  a131 := Tryd.isAgg185
  z131 := Tryd.sizeOf185
  v131 := Tryd.zeroValue185
  t182 := Tryd.underlying189
  a182 := Tryd.isAgg189
  z182 := Tryd.sizeOf189
  v182 := Tryd.zeroValue189
  t183 := Tryd.underlying190
  a183 := Tryd.isAgg190
  z183 := Tryd.sizeOf190
  v183 := Tryd.zeroValue190
  t218 := Tryd.underlying205
  a218 := Tryd.isAgg205
  z218 := Tryd.sizeOf205
  v218 := Tryd.zeroValue205
  t222 := Tryd.underlying209
  a222 := Tryd.isAgg209
  z222 := Tryd.sizeOf209
  v222 := Tryd.zeroValue209
  t228 := Tryd.underlying214
  a228 := Tryd.isAgg214
  z228 := Tryd.sizeOf214
  v228 := Tryd.zeroValue214
  t229 := Tryd.underlying176
  a229 := Tryd.isAgg176
  z229 := Tryd.sizeOf176
  v229 := Tryd.zeroValue176 }
open Go.Sort Go.RowKit in
theorem Tryd.slices_Sort_int (blk off cap : Nat) (zs : List Int) (w : World) (hH : Holds (Value.int .i64) w blk off zs.toArray) (hblk : blk < w.heap.size) (hsz : zs.length < 4611686018427387904) :
    Calls Tryd.prog 93 #[.slice (some ⟨blk, off, none⟩) zs.length cap] w fun e w' =>
      e = .returned (.tuple #[]) ∧ ∃ n os, w' = grow (putRow (Value.int .i64) (Sort.ahead w n) blk off (zs.mergeSort fun x y => decide (x ≤ y)).toArray) os := Any.slices_Sort_int Tryd.lays189 blk off cap zs w hH hblk hsz
end Go.Proofs
