/- Parts of the proof, one behind another. -/
import Derived.Shelf.Sort.Plain
import Derived.Test.YtekehmgfedmflaaGreatDoorProg
set_option linter.all false
noncomputable section
set_option linter.all false
namespace Go.Proofs
open Go.Shelf
def Tryz.lays189_ren:Go.Shelf.Ren:=⟨fun|189=>218|125=>206|257=>232|128=>228|129=>229|294=>239|295=>240|296=>241|297=>242|298=>243|299=>244|216=>245|300=>246|301=>247|328=>249|329=>234|330=>235|331=>250|332=>251|215=>230|343=>252|n=>n,fun|28=>22|3=>3|46=>61|0=>0|51=>249|53=>251|4=>4|183=>243|182=>242|131=>173|5=>5|9=>9|218=>253|222=>257|228=>264|229=>265|n=>n,fun|n=>n⟩
theorem Tryz.lays189:Go.Proofs.Lays.n189 Tryz.prog Tryz.lays189_ren:={
 mixed:=by kernel_rfl
 f125:=Tryz.func206.trans (congrArg some (by kernel_rfl))
 f128:=Tryz.func228.trans (congrArg some (by kernel_rfl))
 f129:=Tryz.func229.trans (congrArg some (by kernel_rfl))
 f189:=Tryz.func218.trans (congrArg some (by kernel_rfl))
 f215:=Tryz.func230.trans (congrArg some (by kernel_rfl))
 f216:=Tryz.func245.trans (congrArg some (by kernel_rfl))
 f257:=Tryz.func232.trans (congrArg some (by kernel_rfl))
 f294:=Tryz.func239.trans (congrArg some (by kernel_rfl))
 f295:=Tryz.func240.trans (congrArg some (by kernel_rfl))
 f296:=Tryz.func241.trans (congrArg some (by kernel_rfl))
 f297:=Tryz.func242.trans (congrArg some (by kernel_rfl))
 f298:=Tryz.func243.trans (congrArg some (by kernel_rfl))
 f299:=Tryz.func244.trans (congrArg some (by kernel_rfl))
 f300:=Tryz.func246.trans (congrArg some (by kernel_rfl))
 f301:=Tryz.func247.trans (congrArg some (by kernel_rfl))
 f328:=Tryz.func249.trans (congrArg some (by kernel_rfl))
 f329:=Tryz.func234.trans (congrArg some (by kernel_rfl))
 f330:=Tryz.func235.trans (congrArg some (by kernel_rfl))
 f331:=Tryz.func250.trans (congrArg some (by kernel_rfl))
 f332:=Tryz.func251.trans (congrArg some (by kernel_rfl))
 f343:=Tryz.func252.trans (congrArg some (by kernel_rfl))
 t0:=Tryz.underlying0
 a0:=Tryz.isAgg0
 z0:=Tryz.sizeOf0
 v0:=Tryz.zeroValue0
 t3:=Tryz.underlying3
 a3:=Tryz.isAgg3
 z3:=Tryz.sizeOf3
 v3:=Tryz.zeroValue3
 t4:=Tryz.underlying4
 a4:=Tryz.isAgg4
 z4:=Tryz.sizeOf4
 v4:=Tryz.zeroValue4
 t5:=Tryz.underlying5
 a5:=Tryz.isAgg5
 z5:=Tryz.sizeOf5
 v5:=Tryz.zeroValue5
 t9:=Tryz.underlying9
 a9:=Tryz.isAgg9
 z9:=Tryz.sizeOf9
 v9:=Tryz.zeroValue9
 t28:=Tryz.underlying22
 a28:=Tryz.isAgg22
 z28:=Tryz.sizeOf22
 v28:=Tryz.zeroValue22
 t46:=Tryz.underlying61
 a46:=Tryz.isAgg61
 z46:=Tryz.sizeOf61
 v46:=Tryz.zeroValue61
 t51:=Tryz.underlying249
 a51:=Tryz.isAgg249
 z51:=Tryz.sizeOf249
 v51:=Tryz.zeroValue249
 t53:=Tryz.underlying251
 a53:=Tryz.isAgg251
 z53:=Tryz.sizeOf251
 v53:=Tryz.zeroValue251
 t131:=Tryz.underlying173
 a131:=Tryz.isAgg173
 z131:=Tryz.sizeOf173
 v131:=Tryz.zeroValue173
 t182:=Tryz.underlying242
 a182:=Tryz.isAgg242
 z182:=Tryz.sizeOf242
 v182:=Tryz.zeroValue242
 t183:=Tryz.underlying243
 a183:=Tryz.isAgg243
 z183:=Tryz.sizeOf243
 v183:=Tryz.zeroValue243
 t218:=Tryz.underlying253
 a218:=Tryz.isAgg253
 z218:=Tryz.sizeOf253
 v218:=Tryz.zeroValue253
 t222:=Tryz.underlying257
 a222:=Tryz.isAgg257
 z222:=Tryz.sizeOf257
 v222:=Tryz.zeroValue257
 t228:=Tryz.underlying264
 a228:=Tryz.isAgg264
 z228:=Tryz.sizeOf264
 v228:=Tryz.zeroValue264
 t229:=Tryz.underlying265
 a229:=Tryz.isAgg265
 z229:=Tryz.sizeOf265
 v229:=Tryz.zeroValue265 }
open Go.Sort Go.RowKit in
theorem Tryz.slices_Sort_int(blk off cap:Nat)(zs:List Int)(w:World)(hH:Holds (Value.int .i64) w blk off zs.toArray)(hblk:blk<w.heap.size)(hsz:zs.length<4611686018427387904) :
  Calls Tryz.prog 218 #[.slice (some ⟨blk,off,none⟩) zs.length cap] w fun e w'=>
   e=.returned (.tuple #[])/\∃n os,w'=grow (putRow (Value.int .i64) (Sort.ahead w n) blk off (zs.mergeSort fun x y=>decide (x<=y)).toArray) os:=Any.slices_Sort_int Tryz.lays189 blk off cap zs w hH hblk hsz
end Go.Proofs

end
