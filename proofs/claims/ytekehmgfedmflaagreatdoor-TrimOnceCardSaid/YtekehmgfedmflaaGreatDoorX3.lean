/- Parts of the proof, one behind another. -/
import Derived.Shelf.SlSortCmp.NoneTotal
import Derived.Shelf.SlicesG.Cmp
import Derived.Ground.SlsfProg
import Derived.Ground.SlgcProg
import Derived.Test.YtekehmgfedmflaaGreatDoorProg
set_option linter.all false
noncomputable section
namespace Go.Proofs
open Go.Shelf
def Tryz.sortF_ren:Go.Shelf.Ren:=⟨fun|6=>177|15=>206|14=>205|28=>228|29=>229|20=>220|21=>221|22=>222|23=>223|24=>224|25=>225|26=>226|27=>227|46=>233|47=>234|48=>235|49=>236|50=>237|57=>248|n=>n,fun|22=>22|24=>3|25=>24|3=>3|39=>61|0=>0|53=>249|55=>251|4=>4|46=>243|45=>242|50=>173|5=>5|9=>9|66=>253|70=>257|76=>264|77=>265|n=>n,fun|n=>n⟩
theorem Tryz.sortF:Go.Proofs.SlLaysF.n6 Tryz.prog Tryz.sortF_ren:={
 mixed:=by kernel_rfl
 f6:=⟨Tryz.f177.name,by decide,Tryz.func177.trans (congrArg some (by kernel_rfl))⟩
 f14:=⟨Tryz.f205.name,by decide,Tryz.func205.trans (congrArg some (by kernel_rfl))⟩
 f15:=Tryz.func206.trans (congrArg some (by kernel_rfl))
 f20:=⟨Tryz.f220.name,by decide,Tryz.func220.trans (congrArg some (by kernel_rfl))⟩
 f21:=⟨Tryz.f221.name,by decide,Tryz.func221.trans (congrArg some (by kernel_rfl))⟩
 f22:=⟨Tryz.f222.name,by decide,Tryz.func222.trans (congrArg some (by kernel_rfl))⟩
 f23:=⟨Tryz.f223.name,by decide,Tryz.func223.trans (congrArg some (by kernel_rfl))⟩
 f24:=⟨Tryz.f224.name,by decide,Tryz.func224.trans (congrArg some (by kernel_rfl))⟩
 f25:=⟨Tryz.f225.name,by decide,Tryz.func225.trans (congrArg some (by kernel_rfl))⟩
 f26:=⟨Tryz.f226.name,by decide,Tryz.func226.trans (congrArg some (by kernel_rfl))⟩
 f27:=⟨Tryz.f227.name,by decide,Tryz.func227.trans (congrArg some (by kernel_rfl))⟩
 f28:=Tryz.func228.trans (congrArg some (by kernel_rfl))
 f29:=Tryz.func229.trans (congrArg some (by kernel_rfl))
 f46:=⟨Tryz.f233.name,by decide,Tryz.func233.trans (congrArg some (by kernel_rfl))⟩
 f47:=Tryz.func234.trans (congrArg some (by kernel_rfl))
 f48:=Tryz.func235.trans (congrArg some (by kernel_rfl))
 f49:=⟨Tryz.f236.name,by decide,Tryz.func236.trans (congrArg some (by kernel_rfl))⟩
 f50:=⟨Tryz.f237.name,by decide,Tryz.func237.trans (congrArg some (by kernel_rfl))⟩
 f57:=⟨Tryz.f248.name,by decide,Tryz.func248.trans (congrArg some (by kernel_rfl))⟩
 t0:=Tryz.underlying0
 a0:=Tryz.isAgg0
 z0:=Tryz.sizeOf0
 v0:=Tryz.zeroValue0
 t3:=Tryz.underlying3
 a3:=Tryz.isAgg3
 z3:=Tryz.sizeOf3
 v3:=Tryz.zeroValue3
 t4:=Tryz.underlying4
 a4:=Tryz.isAgg4
 z4:=Tryz.sizeOf4
 v4:=Tryz.zeroValue4
 t5:=Tryz.underlying5
 a5:=Tryz.isAgg5
 z5:=Tryz.sizeOf5
 v5:=Tryz.zeroValue5
 t9:=Tryz.underlying9
 a9:=Tryz.isAgg9
 z9:=Tryz.sizeOf9
 v9:=Tryz.zeroValue9
 t22:=Tryz.underlying22
 a22:=Tryz.isAgg22
 z22:=Tryz.sizeOf22
 v22:=Tryz.zeroValue22
 a24:=Tryz.isAgg3
 z24:=Tryz.sizeOf3
 t25:=Tryz.underlying24
 a25:=Tryz.isAgg24
 z25:=Tryz.sizeOf24
 v25:=Tryz.zeroValue24
 t39:=Tryz.underlying61
 a39:=Tryz.isAgg61
 z39:=Tryz.sizeOf61
 v39:=Tryz.zeroValue61
 t45:=Tryz.underlying242
 a45:=Tryz.isAgg242
 z45:=Tryz.sizeOf242
 v45:=Tryz.zeroValue242
 t46:=Tryz.underlying243
 a46:=Tryz.isAgg243
 z46:=Tryz.sizeOf243
 v46:=Tryz.zeroValue243
 t50:=Tryz.underlying173
 a50:=Tryz.isAgg173
 z50:=Tryz.sizeOf173
 v50:=Tryz.zeroValue173
 t53:=Tryz.underlying249
 a53:=Tryz.isAgg249
 z53:=Tryz.sizeOf249
 v53:=Tryz.zeroValue249
 t55:=Tryz.underlying251
 a55:=Tryz.isAgg251
 z55:=Tryz.sizeOf251
 v55:=Tryz.zeroValue251
 t66:=Tryz.underlying253
 a66:=Tryz.isAgg253
 z66:=Tryz.sizeOf253
 v66:=Tryz.zeroValue253
 t70:=Tryz.underlying257
 a70:=Tryz.isAgg257
 z70:=Tryz.sizeOf257
 v70:=Tryz.zeroValue257
 t76:=Tryz.underlying264
 a76:=Tryz.isAgg264
 z76:=Tryz.sizeOf264
 v76:=Tryz.zeroValue264
 t77:=Tryz.underlying265
 a77:=Tryz.isAgg265
 z77:=Tryz.sizeOf265
 v77:=Tryz.zeroValue265 }
def Tryz.cmpL_ren:Go.Shelf.Ren:=⟨fun|5=>208|7=>230|n=>n,fun|22=>3|3=>3|4=>4|n=>n,fun|n=>n⟩
theorem Tryz.cmpL:Go.Proofs.SlLaysC2.n5 Tryz.prog Tryz.cmpL_ren:={
 mixed:=by kernel_rfl
 f5:=⟨Tryz.f208.name,by decide,Tryz.func208.trans (congrArg some (by kernel_rfl))⟩
 f7:=⟨Tryz.f230.name,by decide,Tryz.func230.trans (congrArg some (by kernel_rfl))⟩
 t3:=Tryz.underlying3
 a3:=Tryz.isAgg3
 z3:=Tryz.sizeOf3
 v3:=Tryz.zeroValue3
 t4:=Tryz.underlying4
 a4:=Tryz.isAgg4
 z4:=Tryz.sizeOf4
 v4:=Tryz.zeroValue4
 t22:=Tryz.underlying3
 a22:=Tryz.isAgg3
 z22:=Tryz.sizeOf3
 v22:=Tryz.zeroValue3 }
end Go.Proofs

end
