/- Parts of the proof, one behind another. -/
import Derived.Shelf.SlIterI.Nil
import Derived.Shelf.SortM.Plain
import Derived.Shelf.SortM.SortNone
import Derived.Test.YtgneblbblihaoaaDoorProg
set_option linter.all false
/-
  DERIVED: THE SHELF's CONTRACTS AT THIS DUMP, IN PLAIN WORDS (tools/lay-plain.mjs out of 'TrydkShelf.lean', which tools/lay-shelf.mjs wrote): THE SAME DECLARATIONS UNDER THE SAME NAMES: 'import', 'namespace', 'open', 'def', 'theorem' AND NOTHING ELSE: no command of the shelf's: FOR A HAND-IN. Each laying: the table of numbers ('.._ren') and one theorem, a field a fact of the dump's own or the kernel's comparison; each contract: ONE APPLICATION.
-/
namespace Go.Proofs
open Go.Shelf
def Tryd.keysA_ren : Go.Shelf.Ren := ⟨fun | 7 => 69 | 10 => 94 | n => n, fun | 23 => 107 | 26 => 3 | 3 => 4 | 28 => 110 | 0 => 0 | 27 => 109 | 33 => 142 | 4 => 4 | n => n, fun | n => n⟩
theorem Tryd.keysA : Go.Proofs.SlLaysZI.n7 Tryd.prog Tryd.keysA_ren := {
  mixed := by kernel_rfl
  f7 := ⟨Tryd.f69.name, by decide, Tryd.func69.trans (congrArg some (by kernel_rfl))⟩
  f10 := ⟨Tryd.f94.name, by decide, Tryd.func94.trans (congrArg some (by kernel_rfl))⟩
  t0 := Tryd.underlying0
  a0 := Tryd.isAgg0
  z0 := Tryd.sizeOf0
  v0 := Tryd.zeroValue0
  t4 := Tryd.underlying4
  a4 := Tryd.isAgg4
  z4 := Tryd.sizeOf4
  v4 := Tryd.zeroValue4
  t23 := Tryd.underlying107
  a23 := Tryd.isAgg107
  z23 := Tryd.sizeOf107
  v23 := Tryd.zeroValue107
  t26 := Tryd.underlying3
  a26 := Tryd.isAgg3
  z26 := Tryd.sizeOf3
  v26 := Tryd.zeroValue3
  t27 := Tryd.underlying109
  a27 := Tryd.isAgg109
  z27 := Tryd.sizeOf109
  v27 := Tryd.zeroValue109
  t28 := Tryd.underlying110
  a28 := Tryd.isAgg110
  z28 := Tryd.sizeOf110
  v28 := Tryd.zeroValue110
  t33 := Tryd.underlying142
  a33 := Tryd.isAgg142
  z33 := Tryd.sizeOf142
  v33 := Tryd.zeroValue142 }
def Tryd.sortedA_ren : Go.Shelf.Ren := ⟨fun | 6 => 68 | 8 => 92 | 9 => 93 | 11 => 115 | 13 => 117 | 12 => 116 | 23 => 150 | 24 => 151 | 14 => 141 | 15 => 142 | 16 => 143 | 17 => 144 | 18 => 145 | 19 => 146 | 20 => 147 | 21 => 148 | 22 => 149 | 25 => 163 | 26 => 164 | 27 => 165 | 28 => 166 | 29 => 167 | 30 => 168 | 31 => 174 | n => n, fun | 26 => 3 | 28 => 110 | 24 => 30 | 0 => 0 | 3 => 3 | 37 => 117 | 48 => 195 | 50 => 197 | 4 => 4 | 40 => 190 | 39 => 189 | 45 => 185 | 5 => 5 | 9 => 9 | 51 => 205 | 55 => 209 | 57 => 214 | 58 => 176 | 33 => 142 | n => n, fun | n => n⟩
theorem Tryd.sortedA : Go.Proofs.SlLaysZI.n6 Tryd.prog Tryd.sortedA_ren := {
  mixed := by kernel_rfl
  f6 := ⟨Tryd.f68.name, by decide, Tryd.func68.trans (congrArg some (by kernel_rfl))⟩
  f8 := ⟨Tryd.f92.name, by decide, Tryd.func92.trans (congrArg some (by kernel_rfl))⟩
  f11 := ⟨Tryd.f115.name, by decide, Tryd.func115.trans (congrArg some (by kernel_rfl))⟩
  t0 := Tryd.underlying0
  a0 := Tryd.isAgg0
  z0 := Tryd.sizeOf0
  v0 := Tryd.zeroValue0
  t24 := Tryd.underlying30
  a24 := Tryd.isAgg30
  z24 := Tryd.sizeOf30
  v24 := Tryd.zeroValue30
  t26 := Tryd.underlying3
  a26 := Tryd.isAgg3
  z26 := Tryd.sizeOf3
  v26 := Tryd.zeroValue3
  t28 := Tryd.underlying110
  a28 := Tryd.isAgg110
  z28 := Tryd.sizeOf110
  v28 := Tryd.zeroValue110
  i26 := by kernel_rfl }
def Tryd.sortA_ren : Go.Shelf.Ren := ⟨fun | 5 => 93 | 8 => 117 | 7 => 116 | 19 => 150 | 20 => 151 | 10 => 141 | 11 => 142 | 12 => 143 | 13 => 144 | 14 => 145 | 15 => 146 | 16 => 147 | 17 => 148 | 18 => 149 | 30 => 163 | 31 => 164 | 32 => 165 | 33 => 166 | 34 => 167 | 35 => 168 | 40 => 174 | n => n, fun | 23 => 30 | 25 => 3 | 3 => 3 | 32 => 117 | 22 => 30 | 0 => 0 | 44 => 195 | 46 => 197 | 4 => 4 | 36 => 190 | 35 => 189 | 41 => 185 | 5 => 5 | 9 => 9 | 53 => 205 | 57 => 209 | 63 => 214 | 64 => 176 | n => n, fun | n => n⟩
theorem Tryd.sortA : Go.Proofs.SlLaysM.n5 Tryd.prog Tryd.sortA_ren := {
  mixed := by kernel_rfl
  f5 := ⟨Tryd.f93.name, by decide, Tryd.func93.trans (congrArg some (by kernel_rfl))⟩
  f7 := ⟨Tryd.f116.name, by decide, Tryd.func116.trans (congrArg some (by kernel_rfl))⟩
  f8 := Tryd.func117.trans (congrArg some (by kernel_rfl))
  f10 := ⟨Tryd.f141.name, by decide, Tryd.func141.trans (congrArg some (by kernel_rfl))⟩
  f11 := ⟨Tryd.f142.name, by decide, Tryd.func142.trans (congrArg some (by kernel_rfl))⟩
  f12 := ⟨Tryd.f143.name, by decide, Tryd.func143.trans (congrArg some (by kernel_rfl))⟩
  f13 := ⟨Tryd.f144.name, by decide, Tryd.func144.trans (congrArg some (by kernel_rfl))⟩
  f14 := ⟨Tryd.f145.name, by decide, Tryd.func145.trans (congrArg some (by kernel_rfl))⟩
  f15 := ⟨Tryd.f146.name, by decide, Tryd.func146.trans (congrArg some (by kernel_rfl))⟩
  f16 := ⟨Tryd.f147.name, by decide, Tryd.func147.trans (congrArg some (by kernel_rfl))⟩
  f17 := ⟨Tryd.f148.name, by decide, Tryd.func148.trans (congrArg some (by kernel_rfl))⟩
  f18 := ⟨Tryd.f149.name, by decide, Tryd.func149.trans (congrArg some (by kernel_rfl))⟩
  f19 := Tryd.func150.trans (congrArg some (by kernel_rfl))
  f20 := Tryd.func151.trans (congrArg some (by kernel_rfl))
  f30 := ⟨Tryd.f163.name, by decide, Tryd.func163.trans (congrArg some (by kernel_rfl))⟩
  f31 := Tryd.func164.trans (congrArg some (by kernel_rfl))
  f32 := Tryd.func165.trans (congrArg some (by kernel_rfl))
  f33 := ⟨Tryd.f166.name, by decide, Tryd.func166.trans (congrArg some (by kernel_rfl))⟩
  f34 := ⟨Tryd.f167.name, by decide, Tryd.func167.trans (congrArg some (by kernel_rfl))⟩
  f35 := ⟨Tryd.f168.name, by decide, Tryd.func168.trans (congrArg some (by kernel_rfl))⟩
  f40 := ⟨Tryd.f174.name, by decide, Tryd.func174.trans (congrArg some (by kernel_rfl))⟩
  t0 := Tryd.underlying0
  a0 := Tryd.isAgg0
  z0 := Tryd.sizeOf0
  v0 := Tryd.zeroValue0
  t3 := Tryd.underlying3
  a3 := Tryd.isAgg3
  z3 := Tryd.sizeOf3
  v3 := Tryd.zeroValue3
  t4 := Tryd.underlying4
  a4 := Tryd.isAgg4
  z4 := Tryd.sizeOf4
  v4 := Tryd.zeroValue4
  t5 := Tryd.underlying5
  a5 := Tryd.isAgg5
  z5 := Tryd.sizeOf5
  v5 := Tryd.zeroValue5
  t9 := Tryd.underlying9
  a9 := Tryd.isAgg9
  z9 := Tryd.sizeOf9
  v9 := Tryd.zeroValue9
  t22 := Tryd.underlying30
  a22 := Tryd.isAgg30
  z22 := Tryd.sizeOf30
  v22 := Tryd.zeroValue30
  t23 := Tryd.underlying30
  a23 := Tryd.isAgg30
  z23 := Tryd.sizeOf30
  v23 := Tryd.zeroValue30
  t25 := Tryd.underlying3
  a25 := Tryd.isAgg3
  z25 := Tryd.sizeOf3
  v25 := Tryd.zeroValue3
  t32 := Tryd.underlying117
  a32 := Tryd.isAgg117
  z32 := Tryd.sizeOf117
  v32 := Tryd.zeroValue117
  t35 := Tryd.underlying189
  a35 := Tryd.isAgg189
  z35 := Tryd.sizeOf189
  v35 := Tryd.zeroValue189
  t36 := Tryd.underlying190
  a36 := Tryd.isAgg190
  z36 := Tryd.sizeOf190
  v36 := Tryd.zeroValue190
  t41 := Tryd.underlying185
  a41 := Tryd.isAgg185
  z41 := Tryd.sizeOf185
  v41 := Tryd.zeroValue185
  t44 := Tryd.underlying195
  a44 := Tryd.isAgg195
  z44 := Tryd.sizeOf195
  v44 := Tryd.zeroValue195
  t46 := Tryd.underlying197
  a46 := Tryd.isAgg197
  z46 := Tryd.sizeOf197
  v46 := Tryd.zeroValue197
  t53 := Tryd.underlying205
  a53 := Tryd.isAgg205
  z53 := Tryd.sizeOf205
  v53 := Tryd.zeroValue205
  t57 := Tryd.underlying209
  a57 := Tryd.isAgg209
  z57 := Tryd.sizeOf209
  v57 := Tryd.zeroValue209
  t63 := Tryd.underlying214
  a63 := Tryd.isAgg214
  z63 := Tryd.sizeOf214
  v63 := Tryd.zeroValue214
  t64 := Tryd.underlying176
  a64 := Tryd.isAgg176
  z64 := Tryd.sizeOf176
  v64 := Tryd.zeroValue176 }
open Go.RowKit Go.Maps Go.Sort in
theorem Tryd.maps_Keys (mb : Option Nat) (w : World) : Calls Tryd.prog 69 #[.map mb] w fun e w' => e = .returned (.func (.func 94) #[] #[.pointer (some ⟨w.heap.size, 0, none⟩)]) ∧ w' = w.alloc (.cells #[.map mb] 107) :=
  callsIn_wide.1 (AnyZI.keys_in Tryd.keysA Fence.wide 5 trivial rfl mb w)
open Go.RowKit Go.Maps Go.Sort in
theorem Tryd.sortsA (m : Nat) : AnyZI.SortsIn Tryd.prog Tryd.sortedA_ren Fence.wide m :=
  ⟨fun blk off cap ss W hH hblk hsz => callsIn_wide.2 (AnyM.slices_Sort_int Tryd.sortA blk off cap ss W hH hblk hsz),
   fun p cap W => callsIn_wide.2 (AnyM.slices_Sort_int_none Tryd.sortA p cap W)⟩
open Go.RowKit Go.Maps Go.Sort in
theorem Tryd.sorted_keys (Bm b nn : Nat) (D0 : DataW Unit) (R : Value → Option (DataW Unit × List MemPlace)) (w : World) (hB : Bm < w.heap.size) (hcell : w.cell? ⟨Bm, 0, none⟩ = some (.map (some b))) (hown : w.ownsMap Tryd.prog 3 R b nn D0)
    (hmax : Maps.size D0 ≤ maxLen) (hbytes : Maps.size D0 * 8 ≤ 140737488355328) :
    Calls Tryd.prog 68 #[.func (.func 94) #[] #[.pointer (some ⟨Bm, 0, none⟩)]] w fun e w' => ∃ (v : Value) (ss : List Int), e = .returned v ∧ ss.Perm (intKeys D0) ∧
      w'.ownsRow w.heap.size 3 1 v ss.length ((ss.mergeSort (fun x y => decide (x ≤ y))).map encZ) ∧ (v = .slice none 0 0 ↔ ss = []) ∧ Below w.heap.size w w' :=
  callsIn_wide.1 (AnyZI.sorted_in Tryd.sortedA Fence.wide 5 trivial trivial trivial trivial rfl (Nat.le_of_ble_eq_true rfl) (Tryd.sortsA _) (enters_of Tryd.func93 (by kernel_rfl) rfl) 94 #[.pointer (some ⟨Bm, 0, none⟩)] trivial (enters_of Tryd.func94 (by kernel_rfl) rfl) _ _ hmax hbytes _
    (AnyZI.keys_gives (ρ := Tryd.keysA_ren) { Tryd.keysA with } Fence.wide _ trivial rfl (Nat.le_of_ble_eq_true rfl) Bm b nn D0 w hB hcell hown))
end Go.Proofs
