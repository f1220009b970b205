/- Parts of the proof, one behind another. -/
import Derived.Test.YtekehmgfedmflaaGreatDoorProg
import Derived.Test.YtekehmgfedmflaaGreatDoorX6
import Derived.Test.YtekehmgfedmflaaGreatDoorX1
import Derived.Test.YtekehmgfedmflaaGreatDoorX4
import Derived.Test.YtekehmgfedmflaaGreatDoorX5
import Derived.Test.YtekehmgfedmflaaGreatDoorX2
set_option linter.all false
noncomputable section
namespace Go.Proofs.YtekehmgfedmflaaGreatDoor.A
set_option maxRecDepth 100000
section
open Go
theorem mixed:Tryz.prog.follows .mixedOrders=true:=by kernel_rfl
theorem sEeff{calls:FuncId->Option Spec}{f:FuncId}{fn:Func}{an:Ann}{ks pks:List Kd}{G:Tu pks->Heap->Option (Tu ks×Heap)}(n:Nat)(hC:∀g s,calls g=some s->SpecOk Tryz.prog 7 g s)(hf:Tryz.prog.funcs[f]?=some fn)(hb:fn.body=some (fn.body.getD .skip):=by kernel_rfl)(hn:fn.ntmps=n:=by rfl)(hnm:(fn.name == "runtime.NumGoroutine")=false:=by kernel_rfl)(hl:pks.length<=n:=by decide)(heq:∀x σ,G x σ=denF ⟨Tryz.prog,7,n,calls⟩ fn.results.toList (fn.body.getD .skip) an ks (Tu.vals pks x) σ:=by intro x σ;kernel_rfl):SpecOk Tryz.prog 7 f (.eff ks fun args σ=>packs args pks fun x=>G x σ):=yej_ n mixed hC hf hb hn hnm hl heq
theorem sEpur{calls:FuncId->Option Spec}{f:FuncId}{fn:Func}{an:Ann}{ks pks:List Kd}{G:Tu pks->Heap->Option (Tu ks)}(n:Nat)(hC:∀g s,calls g=some s->SpecOk Tryz.prog 7 g s)(hf:Tryz.prog.funcs[f]?=some fn)(hb:fn.body=some (fn.body.getD .skip):=by kernel_rfl)(hn:fn.ntmps=n:=by rfl)(hnm:(fn.name == "runtime.NumGoroutine")=false:=by kernel_rfl)(hl:pks.length<=n:=by decide)(heq:∀x σ,G x σ=denP ⟨Tryz.prog,7,n,calls⟩ fn.results.toList (fn.body.getD .skip) an ks (Tu.vals pks x) σ:=by intro x σ;kernel_rfl):SpecOk Tryz.prog 7 f (.pur ks fun args σ=>packs args pks fun x=>G x σ):=yf1_ n mixed hC hf hb hn hnm hl heq
theorem W.z22_ok:SpecOk Tryz.prog 7 94 W.z22:=
 sEpur (an:=(.s .z (.s (.j [(.normal,[(4,.B)])] .z) .z))) 14 y1_ Tryz.func94
theorem W.z13_ok:SpecOk Tryz.prog 7 53 W.z13:=
 sEeff (an:=(.s .z (.s (.s (.j [(.normal,[(24,.B)])] .z) .z) (.s (.s .z (.l [(29,.I .i64)] [(.exit 0,[]),(.ret,[(2,.V)])] (.s .z (.s .z (.s (.s .z (.s .z (.s (.j [(.normal,[(56,.B)])] .z) .z))) .z))))) (.s (.s .z (.l [(62,.I .i64)] [(.exit 2,[]),(.ret,[(2,.V)])] .z)) .z))))) 77 (y0_ W.z22_ok y1_) Tryz.func53
theorem W.z7_ok:SpecOk Tryz.prog 7 25 W.z7:=
 sEeff (an:=(.s .z (.s .z (.s (.s (.j [(.normal,[(27,.B)])] .z) .z) .z)))) 29 (y0_ W.z13_ok y1_) Tryz.func25
theorem W.z50_ok:SpecOk Tryz.prog 7 99 W.z50:=
 sEpur (an:=.z) 8 y1_ Tryz.func99
theorem W.z124_ok:SpecOk Tryz.prog 7 61 W.z124:=
 sEpur (an:=(.s .z (.s .z (.s (.s .z (.l [(13,.I .i64)] [(.exit 0,[]),(.ret,[(4,.B)])] .z)) .z)))) 26 y1_ Tryz.func61
theorem W.z135_ok:SpecOk Tryz.prog 7 32 W.z135:=
 sEpur (an:=.z) 8 (y0_ W.z124_ok y1_) Tryz.func32
theorem W.z132_ok:SpecOk Tryz.prog 7 31 W.z132:=
 sEpur (an:=.z) 7 (y0_ W.z135_ok y1_) Tryz.func31
theorem W.z125_ok:SpecOk Tryz.prog 7 60 W.z125:=
 sEeff (an:=(.s .z (.s (.s .z (.l [(8,.I .i64)] [(.exit 0,[]),(.ret,[(4,.I .i64)])] .z)) .z))) 19 (y0_ W.z132_ok (y0_ W.z50_ok y1_)) Tryz.func60
theorem W.z122_ok:SpecOk Tryz.prog 7 30 W.z122:=
 sEeff (an:=.z) 9 (y0_ W.z125_ok y1_) Tryz.func30
theorem W.z49_ok:SpecOk Tryz.prog 7 62 W.z49:=
 sEeff (an:=.z) 16 (y0_ W.z122_ok y1_) Tryz.func62
theorem W.z133_ok:SpecOk Tryz.prog 7 35 W.z133:=
 sEeff (an:=.z) 16 (y0_ W.z49_ok (y0_ W.z7_ok y1_)) Tryz.func35
theorem W.z120_ok:SpecOk Tryz.prog 7 71 W.z120:=
 sEeff (an:=.z) 8 y1_ Tryz.func71
theorem W.z61_ok:SpecOk Tryz.prog 7 70 W.z61:=
 sEeff (an:=.z) 6 (y0_ W.z120_ok y1_) Tryz.func70
theorem W.z60_ok:SpecOk Tryz.prog 7 37 W.z60:=
 sEeff (an:=.z) 24 (y0_ W.z61_ok y1_) Tryz.func37
theorem W.z20_ok:SpecOk Tryz.prog 7 45 W.z20:=
 sEeff (an:=.z) 9 y1_ Tryz.func45
theorem W.z19_ok:SpecOk Tryz.prog 7 138 W.z19:=
 sEeff (an:=(.s .z (.s (.s .z (.j [(.normal,[])] .z)) .z))) 14 y1_ Tryz.func138
theorem W.z17_ok:SpecOk Tryz.prog 7 101 W.z17:=
 sEeff (an:=(.s .z (.s (.s (.j [(.normal,[(14,.B)])] .z) .z) .z))) 21 (y0_ W.z19_ok y1_) Tryz.func101
theorem W.z59_ok:SpecOk Tryz.prog 7 139 W.z59:=
 sEeff (an:=(.s .z (.s .z (.s (.s (.j [(.normal,[(28,.B)])] .z) .z) (.s .z (.s .z (.s (.s .z (.l [(7,.I .i64)] [(.exit 0,[])] (.s .z (.s (.j [(.normal,[])] .z) .z)))) .z))))))) 67 (y0_ W.z13_ok y1_) Tryz.func139
theorem W.z58_ok:SpecOk Tryz.prog 7 140 W.z58:=
 sEpur (an:=.z) 12 y1_ Tryz.func140
theorem W.z18_ok:SpecOk Tryz.prog 7 128 W.z18:=
 sEpur (an:=.z) 13 y1_ Tryz.func128
theorem W.z21_ok:SpecOk Tryz.prog 7 100 W.z21:=
 sEpur (an:=.z) 5 y1_ Tryz.func100
theorem W.z14_ok:SpecOk Tryz.prog 7 134 W.z14:=
 sEeff (an:=(.s .z (.s .z (.s (.s (.j [(.normal,[(16,.B)])] .z) (.s .z (.s .z (.s .z (.s (.j [(.normal,[(35,.B)])] .z) .z))))) .z)))) 92 (y0_ W.z21_ok (y0_ W.z19_ok (y0_ W.z22_ok (y0_ W.z18_ok y1_)))) Tryz.func134
theorem W.z53_ok:SpecOk Tryz.prog 7 107 W.z53:=
 sEpur (an:=(.s .z (.s (.j [(.normal,[(4,.B)])] .z) .z))) 18 y1_ Tryz.func107
theorem W.z52_ok:SpecOk Tryz.prog 7 106 W.z52:=
 sEpur (an:=.z) 9 (y0_ W.z53_ok y1_) Tryz.func106
theorem W.z55_ok:SpecOk Tryz.prog 7 82 W.z55:=
 sEpur (an:=.z) 7 y1_ Tryz.func82
theorem W.z12_ok:SpecOk Tryz.prog 7 230 W.z12:=
 sEpur (an:=.z) 6 y1_ Tryz.func230
theorem W.z10_ok:SpecOk Tryz.prog 7 208 W.z10:=
 sEpur (an:=.z) 20 (y0_ W.z12_ok y1_) Tryz.func208
theorem W.z11_ok:SpecOk Tryz.prog 7 207 W.z11:=
 sEpur (an:=(.s .z (.s .z (.s (.s .z (.l [(8,.I .i64)] [(.exit 0,[]),(.ret,[(2,.I .i64)])] .z)) .z)))) 18 y1_ Tryz.func207
theorem W.z56_ok:SpecOk Tryz.prog 7 178 W.z56:=
 sEeff (an:=.z) 15 (y0_ W.z11_ok (y0_ W.z10_ok (y0_ W.z55_ok y1_))) Tryz.func178
theorem W.z4_ok:SpecOk Tryz.prog 7 145 W.z4:=
 sEpur (an:=.z) 9 y1_ Tryz.func145
theorem W.z70_ok:SpecOk Tryz.prog 7 147 W.z70:=
 sEpur (an:=.z) 12 (y0_ W.z53_ok (y0_ W.z4_ok y1_)) Tryz.func147
theorem W.z83_ok:SpecOk Tryz.prog 7 112 W.z83:=
 sEpur (an:=.z) 8 (y0_ W.z4_ok y1_) Tryz.func112
theorem W.z97_ok:SpecOk Tryz.prog 7 111 W.z97:=
 sEpur (an:=.z) 12 (y0_ W.z53_ok (y0_ W.z83_ok y1_)) Tryz.func111
theorem W.z3_ok:SpecOk Tryz.prog 7 199 W.z3:=
 sEpur (an:=(.s .z (.s .z (.s .z (.s (.s (.j [(.normal,[(29,.B)])] .z) (.j [(.normal,[(5,.I .i64)])] .z)) .z))))) 33 (y0_ W.z55_ok (y0_ W.z53_ok y1_)) Tryz.func199
theorem W.z82_ok:SpecOk Tryz.prog 7 163 W.z82:=
 sEpur (an:=.z) 11 (y0_ W.z3_ok y1_) Tryz.func163
theorem W.z45_ok:SpecOk Tryz.prog 7 214 W.z45:=
 sEpur (an:=.z) 8 (y0_ W.z82_ok y1_) Tryz.func214
def W.z31.n(n:Nat):Spec:=.eff [] fun args σ=>packs args [.I .i64,.V,.V,.V] fun x=>S.z31.n n x.1 x.2.1 x.2.2.1 x.2.2.2 σ
theorem W.z31.n_ok:∀n,SpecOk Tryz.prog 7 217 (W.z31.n n)
 |0=>y63_ Tryz.func217 rfl (by kernel_rfl) (fun args σ=>y99_ _ _)
 |n+1=>sEeff (an:=(.s (.j [(.normal,[(39,.B)])] .z) .z)) 60 (y0_ (W.z31.n_ok n) y1_) Tryz.func217
theorem W.z31_ok:SpecOk Tryz.prog 7 217 W.z31:=y8i_ (ks:=[]) (pks:=[.I .i64,.V,.V,.V]) (G:=fun n (x:Tu [.I .i64,.V,.V,.V]) σ=>S.z31.n n x.1 x.2.1 x.2.2.1 x.2.2.2 σ) W.z31.n_ok
theorem W.z100_ok:SpecOk Tryz.prog 7 114 W.z100:=
 sEpur (an:=.z) 12 (y0_ W.z53_ok (y0_ W.z83_ok y1_)) Tryz.func114
theorem W.z38_ok:SpecOk Tryz.prog 7 219 W.z38:=
 sEpur (an:=.z) 12 (y0_ W.z53_ok y1_) Tryz.func219
theorem W.z57_ok:SpecOk Tryz.prog 7 102 W.z57:=
 sEeff (an:=(.s .z (.s .z (.s .z (.s .z (.s .z (.s .z (.s (.s .z (.l [(12,.I .i64)] [(.exit 0,[])] (.s .z (.s (.j [(.normal,[])] .z) .z)))) .z)))))))) 68 (y0_ W.z14_ok (y0_ W.z38_ok (y0_ W.z100_ok (y0_ W.z31_ok (y0_ W.z45_ok (y0_ W.z97_ok (y0_ W.z70_ok (y0_ W.z56_ok (y0_ W.z52_ok (y0_ W.z21_ok (y0_ W.z58_ok (y0_ W.z59_ok y1_)))))))))))) Tryz.func102
theorem W.z8_ok:SpecOk Tryz.prog 7 64 W.z8:=
 sEeff (an:=(.s .z (.s .z (.s (.s .z (.l [(15,.I .i64)] [(.exit 0,[])] (.s .z (.s .z (.s (.j [(.normal,[])] (.s .z (.s .z (.s .z (.s (.j [(.normal,[(29,.B)])] .z) .z))))) .z))))) .z)))) 60 (y0_ W.z57_ok (y0_ W.z17_ok y1_)) Tryz.func64
theorem W.z9_ok:SpecOk Tryz.prog 7 63 W.z9:=
 sEeff (an:=.z) 10 (y0_ W.z21_ok y1_) Tryz.func63
theorem W.z16_ok:SpecOk Tryz.prog 7 47 W.z16:=
 sEpur (an:=.z) 7 y1_ Tryz.func47
theorem W.z118_ok:SpecOk Tryz.prog 7 86 W.z118:=
 sEeff (an:=.z) 8 y1_ Tryz.func86
theorem W.z15_ok:SpecOk Tryz.prog 7 48 W.z15:=
 sEeff (an:=.z) 17 (y0_ W.z120_ok (y0_ W.z118_ok y1_)) Tryz.func48
theorem W.z138_ok:SpecOk Tryz.prog 7 132 W.z138:=
 sEpur (an:=.z) 15 y1_ Tryz.func132
theorem W.z139_ok:SpecOk Tryz.prog 7 104 W.z139:=
 sEeff (an:=(.s .z (.s .z (.s (.s .z (.l [(4,.V),(12,.I .i64)] [(.exit 0,[(4,.V)]),(.ret,[(2,.V),(3,.B)])] (.s .z (.s .z (.s (.j [(.normal,[(4,.V)]),(.ret,[(2,.V),(3,.B)])] .z) .z))))) .z)))) 27 (y0_ W.z138_ok y1_) Tryz.func104
theorem W.z137_ok:SpecOk Tryz.prog 7 103 W.z137:=
 y7i_ (pv:=inL [11,17,24,28]) (an:=(.s .z (.s .z (.s .z (.s (.s .z (.l [(6,.V),(35,.I .i64)] [(.exit 0,[(6,.V)])] (.s .z (.s .z (.s (.j [(.normal,[(6,.V)])] .z) .z))))) .z))))) (calls:=(tab 104 W.z139 (tab 219 W.z38 (tab 114 W.z100 (tab 217 W.z31 (tab 214 W.z45 (tab 111 W.z97 (tab 147 W.z70 (tab 178 W.z56 (tab 106 W.z52 (tab 100 W.z21 (tab 140 W.z58 y3p_)))))))))))) 51 mixed (y0_ W.z139_ok (y0_ W.z38_ok (y0_ W.z100_ok (y0_ W.z31_ok (y0_ W.z45_ok (y0_ W.z97_ok (y0_ W.z70_ok (y0_ W.z56_ok (y0_ W.z52_ok (y0_ W.z21_ok (y0_ W.z58_ok y1_))))))))))) Tryz.func103 (by kernel_rfl) rfl (by kernel_rfl) (by decide) (fun x σ=>by kernel_rfl)
theorem W.z136_ok:SpecOk Tryz.prog 7 65 W.z136:=
 sEeff (an:=(.s .z (.s .z (.s .z (.s (.s .z (.l [(31,.I .i64)] [(.exit 0,[]),(.ret,[(5,.V)])] (.s .z (.s .z (.s (.s .z (.s (.j [(.normal,[(44,.B)])] .z) .z)) .z))))) (.s (.s .z (.l [(51,.I .i64)] [(.exit 2,[])] .z)) (.s (.s .z (.l [(71,.I .i64)] [(.exit 4,[])] (.s .z (.s .z (.s (.j [(.normal,[])] .z) .z))))) .z))))))) 90 (y0_ W.z139_ok (y0_ W.z137_ok (y0_ W.z13_ok y1_))) Tryz.func65
theorem W.z126_ok:SpecOk Tryz.prog 7 141 W.z126:=
 sEeff (an:=(.s .z (.s (.s .z (.l [(8,.I .i64)] [(.exit 0,[]),(.ret,[(4,.I .i64)])] .z)) .z))) 19 (y0_ W.z38_ok (y0_ W.z100_ok (y0_ W.z31_ok (y0_ W.z45_ok (y0_ W.z97_ok (y0_ W.z70_ok (y0_ W.z56_ok (y0_ W.z52_ok (y0_ W.z21_ok (y0_ W.z58_ok y1_)))))))))) Tryz.func141
theorem W.z123_ok:SpecOk Tryz.prog 7 105 W.z123:=
 sEeff (an:=.z) 9 (y0_ W.z126_ok y1_) Tryz.func105
theorem W.z51_ok:SpecOk Tryz.prog 7 66 W.z51:=
 sEeff (an:=(.s .z (.s .z (.s (.s .z (.l [(3,.I .i64),(11,.I .i64)] [(.exit 0,[(3,.I .i64)])] .z)) (.s (.s (.j [(.normal,[(37,.B)])] .z) .z) (.s (.s .z (.l [(42,.I .i64)] [(.exit 2,[]),(.ret,[(2,.V)])] .z)) .z)))))) 56 (y0_ W.z123_ok y1_) Tryz.func66
theorem W.z5_ok:SpecOk Tryz.prog 7 175 W.z5:=
 sEpur (an:=.z) 6 y1_ Tryz.func175
theorem W.z6_ok:SpecOk Tryz.prog 7 142 W.z6:=
 sEeff (an:=.z) 9 (y0_ W.z5_ok y1_) Tryz.func142
theorem W.z0_ok:SpecOk Tryz.prog 7 176 W.z0:=
 sEeff (an:=(.l [] [(.exit 0,[])] .z)) 21 (y0_ W.z5_ok y1_) Tryz.func176
theorem W.z75_ok:SpecOk Tryz.prog 7 143 W.z75:=
 sEeff (an:=(.s .z (.l [] [(.exit 0,[])] .z))) 48 (y0_ W.z4_ok (y0_ W.z0_ok y1_)) Tryz.func143
theorem W.z68_ok:SpecOk Tryz.prog 7 108 W.z68:=
 sEeff (an:=.z) 14 (y0_ W.z75_ok (y0_ W.z6_ok y1_)) Tryz.func108
theorem W.z33_ok:SpecOk Tryz.prog 7 181 W.z33:=
 sEpur (an:=(.s .z (.s (.j [(.normal,[(4,.B)])] .z) .z))) 16 y1_ Tryz.func181
theorem W.z29_ok:SpecOk Tryz.prog 7 209 W.z29:=
 sEpur (an:=(.s .z (.s (.j [(.normal,[(6,.B)])] .z) .z))) 44 y1_ Tryz.func209
theorem W.z34_ok:SpecOk Tryz.prog 7 210 W.z34:=
 sEeff (an:=.z) 21 y1_ Tryz.func210
theorem W.z36_ok:SpecOk Tryz.prog 7 182 W.z36:=
 sEeff (an:=(.s .z (.s (.l [(1,.I .i64)] [(.exit 0,[(1,.I .i64)])] (.s (.s (.j [(.normal,[(27,.B)])] .z) .z) .z)) .z))) 47 (y0_ W.z34_ok (y0_ W.z29_ok y1_)) Tryz.func182
theorem W.z28_ok:SpecOk Tryz.prog 7 151 W.z28:=
 sEeff (an:=(.s .z (.s (.s (.j [(.normal,[(18,.B)])] .z) .z) .z))) 37 (y0_ W.z36_ok (y0_ W.z33_ok y1_)) Tryz.func151
theorem W.z24_ok:SpecOk Tryz.prog 7 144 W.z24:=
 sEeff (an:=(.l [] [(.exit 0,[])] .z)) 38 (y0_ W.z28_ok (y0_ W.z5_ok y1_)) Tryz.func144
theorem W.z37_ok:SpecOk Tryz.prog 7 109 W.z37:=
 sEeff (an:=.z) 12 (y0_ W.z24_ok y1_) Tryz.func109
theorem W.z98_ok:SpecOk Tryz.prog 7 110 W.z98:=
 sEeff (an:=(.s .z (.s .z (.l [] [(.exit 0,[])] .z)))) 36 (y0_ W.z83_ok (y0_ W.z24_ok (y0_ W.z75_ok y1_))) Tryz.func110
theorem W.z109_ok:SpecOk Tryz.prog 7 67 W.z109:=
 sEeff (an:=.z) 15 (y0_ W.z98_ok (y0_ W.z37_ok (y0_ W.z68_ok y1_))) Tryz.func67
theorem W.z128_ok:SpecOk Tryz.prog 7 177 W.z128:=ycd_ Tryz.sortsOrd Tryz.sortsNone ⟨Tryz.f177,Tryz.func177,by kernel_rfl,by kernel_rfl⟩
theorem W.z121_ok:SpecOk Tryz.prog 7 180 W.z121:=
 sEeff (an:=(.s .z (.s .z (.s (.s .z (.l [(3,.I .i64)] [(.exit 0,[]),(.ret,[(2,.V)])] (.s .z (.s (.s .z (.s (.s .z (.s (.s .z (.l [(3,.I .i64),(5,.I .i64)] [(.exit 2,[(3,.I .i64)])] (.s .z (.s (.j [(.normal,[(3,.I .i64)])] .z) .z)))) .z)) .z)) .z)))) .z)))) 61 y1_ Tryz.func180
theorem W.z117_ok:SpecOk Tryz.prog 7 179 W.z117:=
 sEpur (an:=.z) 9 y1_ Tryz.func179
theorem W.z54_ok:SpecOk Tryz.prog 7 146 W.z54:=
 sEeff (an:=(.s .z (.s .z (.s .z (.s .z (.s (.s .z (.l [(5,.I .i64)] [(.exit 0,[]),(.ret,[(2,.V),(3,.B)])] .z)) .z)))))) 33 (y0_ W.z55_ok (y0_ W.z117_ok (y0_ W.z121_ok (y0_ W.z128_ok (y0_ W.z120_ok y1_))))) Tryz.func146
theorem W.z95_ok:SpecOk Tryz.prog 7 148 W.z95:=
 sEpur (an:=.z) 10 y1_ Tryz.func148
theorem W.z89_ok:SpecOk Tryz.prog 7 149 W.z89:=
 sEeff (an:=.z) 30 y1_ Tryz.func149
theorem W.z69_ok:SpecOk Tryz.prog 7 113 W.z69:=
 sEeff (an:=(.s .z (.s .z (.s (.s (.j [(.normal,[(22,.B)])] .z) .z) (.s .z (.s .z (.s (.s .z (.j [(.normal,[])] (.s (.s .z (.l [(45,.I .i64)] [(.exit 0,[])] .z)) .z))) .z))))))) 72 (y0_ W.z89_ok (y0_ W.z95_ok (y0_ W.z123_ok (y0_ W.z54_ok y1_)))) Tryz.func113
theorem W.z96_ok:SpecOk Tryz.prog 7 68 W.z96:=
 sEeff (an:=.z) 14 (y0_ W.z69_ok (y0_ W.z123_ok y1_)) Tryz.func68
theorem W.z80_ok:SpecOk Tryz.prog 7 150 W.z80:=
 sEeff (an:=(.s .z (.s (.s (.j [(.normal,[(15,.B)])] .z) .z) .z))) 29 (y0_ W.z120_ok y1_) Tryz.func150
theorem W.z2_ok:SpecOk Tryz.prog 7 183 W.z2:=
 sEeff (an:=(.s (.j [(.normal,[(14,.B)])] .z) .z)) 21 y1_ Tryz.func183
theorem W.z71_ok:SpecOk Tryz.prog 7 152 W.z71:=
 sEeff (an:=(.s .z (.s .z (.s .z (.s (.s .z (.l [(31,.I .i64)] [(.exit 0,[])] .z)) .z))))) 83 (y0_ W.z2_ok (y0_ W.z55_ok y1_)) Tryz.func152
theorem W.z102_ok:SpecOk Tryz.prog 7 115 W.z102:=
 sEeff (an:=(.s (.s .z (.l [(14,.I .i64)] [(.exit 0,[])] (.s .z (.s .z (.s (.j [(.normal,[])] (.s .z (.s .z (.s .z (.s (.s .z (.j [(.normal,[])] .z)) .z))))) .z))))) .z)) 47 (y0_ W.z71_ok (y0_ W.z28_ok (y0_ W.z55_ok (y0_ W.z80_ok y1_)))) Tryz.func115
theorem W.z91_ok:SpecOk Tryz.prog 7 238 W.z91:=
 sEpur (an:=.z) 26 (y0_ W.z55_ok (y0_ W.z3_ok y1_)) Tryz.func238
theorem W.z87_ok:SpecOk Tryz.prog 7 231 W.z87:=
 sEeff (an:=(.s .z (.s (.s .z (.l [(6,.I .i64),(7,.I .i64)] [(.exit 0,[(6,.I .i64)])] (.s .z (.s (.j [(.normal,[(6,.I .i64)])] .z) .z)))) .z))) 45 (y0_ W.z91_ok y1_) Tryz.func231
theorem W.z94_ok:SpecOk Tryz.prog 7 211 W.z94:=
 sEeff (an:=(.s .z (.s .z (.s .z (.s .z (.s .z (.s .z (.l [(35,.I .i64)] [(.exit 0,[])] (.s .z (.s .z (.s (.j [(.normal,[])] (.s .z (.s (.j [(.normal,[(46,.B)])] .z) .z))) .z))))))))))) 66 (y0_ W.z95_ok (y0_ W.z87_ok y1_)) Tryz.func211
theorem W.z1_ok:SpecOk Tryz.prog 7 216 W.z1:=
 sEeff (an:=(.s .z (.s (.s (.j [(.normal,[(19,.B)])] .z) .z) (.s (.s .z (.j [(.normal,[])] .z)) .z)))) 35 (y0_ W.z3_ok (y0_ W.z53_ok y1_)) Tryz.func216
theorem W.z92_ok:SpecOk Tryz.prog 7 200 W.z92:=
 sEeff (an:=.z) 43 (y0_ W.z55_ok (y0_ W.z1_ok y1_)) Tryz.func200
theorem W.z85_ok:SpecOk Tryz.prog 7 184 W.z85:=
 sEeff (an:=(.s .z (.s .z (.s .z (.s (.j [(.normal,[]),(.ret,[(4,.B),(5,.B)])] (.s (.j [(.normal,[(19,.B)])] .z) (.s .z (.s (.j [(.normal,[(34,.B)])] .z) .z)))) (.s .z (.s (.s .z (.j [(.normal,[(7,.I .i64)])] .z)) .z))))))) 90 (y0_ W.z55_ok (y0_ W.z92_ok (y0_ W.z3_ok (y0_ W.z94_ok y1_)))) Tryz.func184
theorem W.z84_ok:SpecOk Tryz.prog 7 153 W.z84:=
 sEeff (an:=(.s .z (.s .z (.s .z (.s .z (.s (.s .z (.l [(4,.I .i64),(18,.I .i64)] [(.exit 0,[(4,.I .i64)])] (.s .z (.s .z (.s (.j [(.normal,[(4,.I .i64)])] (.s .z (.s .z (.s .z (.s .z (.s .z (.s (.s .z (.j [(.normal,[(4,.I .i64)])] .z)) .z))))))) .z))))) .z)))))) 57 (y0_ W.z85_ok (y0_ W.z89_ok y1_)) Tryz.func153
theorem W.z90_ok:SpecOk Tryz.prog 7 212 W.z90:=
 sEeff (an:=(.s .z (.s .z (.s (.s .z (.l [(6,.I .i64)] [(.exit 0,[]),(.ret,[(4,.B)])] .z)) .z)))) 65 (y0_ W.z95_ok (y0_ W.z3_ok y1_)) Tryz.func212
theorem W.z93_ok:SpecOk Tryz.prog 7 185 W.z93:=
 sEeff (an:=(.s .z (.s .z (.s (.s (.j [(.normal,[(39,.B)])] .z) .z) (.s (.s .z (.j [(.normal,[])] .z)) (.s (.s .z (.j [(.normal,[]),(.ret,[(6,.B),(7,.B)])] .z)) (.s (.s .z (.j [(.normal,[])] .z)) .z))))))) 104 (y0_ W.z89_ok (y0_ W.z55_ok (y0_ W.z92_ok (y0_ W.z90_ok (y0_ W.z3_ok y1_))))) Tryz.func185
theorem W.z86_ok:SpecOk Tryz.prog 7 154 W.z86:=
 sEeff (an:=(.s .z (.s .z (.s .z (.s .z (.s .z (.s (.s .z (.l [(6,.V),(7,.I .i64),(29,.I .i64)] [(.exit 0,[(6,.V),(7,.I .i64)])] (.s .z (.s .z (.s (.j [(.normal,[(6,.V),(7,.I .i64)])] (.s .z (.s .z (.s .z (.s (.s .z (.j [(.normal,[(6,.V)])] .z)) .z))))) .z))))) .z))))))) 72 (y0_ W.z93_ok (y0_ W.z95_ok y1_)) Tryz.func154
theorem W.z78_ok:SpecOk Tryz.prog 7 116 W.z78:=
 sEeff (an:=(.s .z (.s .z (.s (.l [] [(.exit 0,[]),(.ret,[(2,.I .i64)])] .z) .z)))) 43 (y0_ W.z86_ok (y0_ W.z84_ok y1_)) Tryz.func116
theorem W.z76_ok:SpecOk Tryz.prog 7 117 W.z76:=
 sEpur (an:=.z) 8 y1_ Tryz.func117
theorem W.z104_ok:SpecOk Tryz.prog 7 118 W.z104:=
 sEeff (an:=(.s .z (.s .z (.s (.s .z (.l [(5,.V),(13,.I .i64)] [(.exit 0,[(5,.V)])] .z)) .z)))) 36 y1_ Tryz.func118
theorem W.z62_ok:SpecOk Tryz.prog 7 155 W.z62:=
 sEeff (an:=(.s .z (.s .z (.s .z (.s (.j [(.normal,[(2,.B)])] .z) .z))))) 33 y1_ Tryz.func155
theorem W.z88_ok:SpecOk Tryz.prog 7 213 W.z88:=
 sEpur (an:=(.s .z (.s (.j [(.normal,[(4,.B)])] .z) .z))) 26 y1_ Tryz.func213
theorem W.z72_ok:SpecOk Tryz.prog 7 186 W.z72:=
 sEeff (an:=.z) 18 (y0_ W.z120_ok (y0_ W.z88_ok y1_)) Tryz.func186
theorem W.z44_ok:SpecOk Tryz.prog 7 187 W.z44:=
 sEeff (an:=.z) 9 (y0_ W.z123_ok y1_) Tryz.func187
theorem W.z77_ok:SpecOk Tryz.prog 7 191 W.z77:=
 sEpur (an:=(.s .z (.s (.s (.j [(.normal,[(15,.B)])] .z) .z) .z))) 23 y1_ Tryz.func191
theorem W.z46_ok:SpecOk Tryz.prog 7 188 W.z46:=
 sEpur (an:=(.s .z (.s .z (.s (.s .z (.l [(5,.I .i64),(10,.I .i64)] [(.exit 0,[(5,.I .i64)])] .z)) .z)))) 22 (y0_ W.z77_ok (y0_ W.z55_ok y1_)) Tryz.func188
theorem W.z47_ok:SpecOk Tryz.prog 7 189 W.z47:=
 sEeff (an:=(.s .z (.l [(12,.I .i64)] [(.exit 0,[])] (.s .z (.s .z (.s (.j [(.normal,[])] (.s .z (.s .z (.s .z (.s (.s (.j [(.normal,[(45,.B)])] .z) .z) .z))))) .z)))))) 85 (y0_ W.z77_ok (y0_ W.z55_ok y1_)) Tryz.func189
theorem W.z81_ok:SpecOk Tryz.prog 7 190 W.z81:=
 sEeff (an:=.z) 8 (y0_ W.z120_ok y1_) Tryz.func190
theorem W.z39_ok:SpecOk Tryz.prog 7 159 W.z39:=
 sEpur (an:=.z) 12 (y0_ W.z46_ok y1_) Tryz.func159
theorem W.z42_ok:SpecOk Tryz.prog 7 158 W.z42:=
 sEeff (an:=(.s .z (.s .z (.s (.s .z (.l [(11,.I .i64)] [(.exit 0,[])] .z)) .z)))) 23 (y0_ W.z77_ok (y0_ W.z55_ok y1_)) Tryz.func158
theorem W.z79_ok:SpecOk Tryz.prog 7 192 W.z79:=
 sEpur (an:=(.s .z (.s (.s (.j [(.normal,[(15,.B)])] .z) .z) .z))) 23 y1_ Tryz.func192
theorem W.z41_ok:SpecOk Tryz.prog 7 156 W.z41:=
 sEeff (an:=(.s .z (.s .z (.s (.s (.j [(.normal,[(29,.B)])] .z) .z) (.s .z (.s .z (.s .z (.s (.s .z (.l [(9,.I .i64)] [(.exit 0,[]),(.ret,[(5,.B)])] (.s .z (.s (.j [(.normal,[]),(.ret,[(5,.B)])] (.s .z (.s .z (.s (.s (.j [(.normal,[(72,.B)])] .z) .z) .z)))) .z)))) .z)))))))) 114 (y0_ W.z79_ok (y0_ W.z42_ok (y0_ W.z39_ok (y0_ W.z77_ok (y0_ W.z55_ok (y0_ W.z81_ok (y0_ W.z47_ok (y0_ W.z46_ok (y0_ W.z44_ok (y0_ W.z76_ok (y0_ W.z72_ok y1_))))))))))) Tryz.func156
def W.z48.n(n:Nat):Spec:=.eff [.B] fun args σ=>packs args [.V,.I .i64] fun x=>S.z48.n n x.1 x.2 σ
theorem W.z48.n_ok:∀n,SpecOk Tryz.prog 7 193 (W.z48.n n)
 |0=>y63_ Tryz.func193 rfl (by kernel_rfl) (fun args σ=>y99_ _ _)
 |n+1=>sEeff (an:=(.s .z (.s .z (.s .z (.s .z (.s (.s .z (.j [(.normal,[(8,.B)])] (.s (.s .z (.l [(8,.B),(39,.I .i64)] [(.exit 0,[(8,.B)])] (.s .z (.s .z (.s (.s .z (.s .z (.s (.j [(.normal,[(62,.B)])] .z) .z))) .z))))) .z))) .z)))))) 71 (y0_ (W.z48.n_ok n) (y0_ W.z55_ok (y0_ W.z72_ok (y0_ W.z79_ok y1_)))) Tryz.func193
theorem W.z48_ok:SpecOk Tryz.prog 7 193 W.z48:=y8i_ (ks:=[.B]) (pks:=[.V,.I .i64]) (G:=fun n (x:Tu [.V,.I .i64]) σ=>S.z48.n n x.1 x.2 σ) W.z48.n_ok
theorem W.z43_ok:SpecOk Tryz.prog 7 157 W.z43:=
 sEeff (an:=(.s .z (.s .z (.s (.s .z (.l [(18,.I .i64)] [(.exit 0,[])] .z)) (.s .z (.s (.s .z (.l [(8,.V),(31,.I .i64)] [(.exit 2,[(8,.V)])] (.s .z (.s .z (.s (.j [(.normal,[(8,.V)])] (.s .z (.s (.s (.j [(.normal,[(43,.B)])] .z) .z) .z))) .z))))) .z)))))) 50 (y0_ W.z48_ok (y0_ W.z55_ok y1_)) Tryz.func157
theorem W.z32_ok:SpecOk Tryz.prog 7 215 W.z32:=
 sEeff (an:=(.s .z (.s (.l [(1,.I .i64)] [(.exit 0,[(1,.I .i64)])] (.s .z (.s (.s (.j [(.normal,[(42,.B)])] .z) (.j [(.normal,[(5,.I .i64)])] .z)) (.s (.s (.j [(.normal,[(64,.B)])] .z) .z) .z)))) .z))) 80 (y0_ W.z34_ok (y0_ W.z29_ok y1_)) Tryz.func215
theorem W.z23_ok:SpecOk Tryz.prog 7 194 W.z23:=
 sEeff (an:=(.s .z (.s .z (.s .z (.s .z (.s (.s .z (.s .z (.j [(.normal,[])] .z))) .z)))))) 62 (y0_ W.z32_ok (y0_ W.z36_ok (y0_ W.z33_ok y1_))) Tryz.func194
theorem W.z25_ok:SpecOk Tryz.prog 7 195 W.z25:=
 sEeff (an:=(.s (.s .z (.l [(9,.I .i64)] [(.exit 0,[])] .z)) (.s .z (.l [(3,.I .i64)] [(.exit 2,[])] .z)))) 35 (y0_ W.z32_ok y1_) Tryz.func195
theorem W.z103_ok:SpecOk Tryz.prog 7 160 W.z103:=
 sEeff (an:=(.s (.s .z (.l [(8,.I .i64)] [(.exit 0,[])] .z)) (.s .z (.s .z (.s (.s (.s .z (.l [(40,.I .i64)] [(.exit 2,[])] .z)) .z) .z))))) 55 (y0_ W.z25_ok (y0_ W.z23_ok y1_)) Tryz.func160
theorem W.z67_ok:SpecOk Tryz.prog 7 196 W.z67:=
 sEeff (an:=.z) 35 y1_ Tryz.func196
theorem W.z64_ok:SpecOk Tryz.prog 7 161 W.z64:=
 sEeff (an:=(.s .z (.s (.s (.j [(.normal,[(19,.B)])] .z) .z) .z))) 30 (y0_ W.z67_ok y1_) Tryz.func161
theorem W.z63_ok:SpecOk Tryz.prog 7 197 W.z63:=
 sEeff (an:=(.s .z (.s (.j [(.normal,[(4,.B)])] .z) .z))) 15 (y0_ W.z67_ok y1_) Tryz.func197
theorem W.z74_ok:SpecOk Tryz.prog 7 198 W.z74:=
 sEeff (an:=(.s .z (.s .z (.s (.s .z (.l [(20,.I .i64)] [(.exit 0,[]),(.ret,[(4,.B)])] (.s .z (.s .z (.s (.s .z (.s (.j [(.normal,[(42,.B)])] .z) .z)) .z))))) .z)))) 59 (y0_ W.z55_ok (y0_ W.z3_ok (y0_ W.z88_ok y1_))) Tryz.func198
theorem W.z108_ok:SpecOk Tryz.prog 7 162 W.z108:=
 sEeff (an:=(.s .z (.s .z (.s (.s .z (.l [(2,.V),(13,.I .i64)] [(.exit 0,[(2,.V)])] (.s .z (.s .z (.s (.j [(.normal,[(2,.V)])] (.s .z (.s .z (.s (.s (.j [(.normal,[(45,.B)])] .z) .z) .z)))) .z))))) .z)))) 66 (y0_ W.z74_ok (y0_ W.z63_ok (y0_ W.z72_ok (y0_ W.z102_ok y1_)))) Tryz.func162
theorem W.z106_ok:SpecOk Tryz.prog 7 119 W.z106:=
 sEeff (an:=(.s .z (.s .z (.s .z (.s .z (.s .z (.s .z (.s .z (.s .z (.s .z (.s .z (.s (.s .z (.s .z (.j [(.normal,[])] .z))) (.s .z (.s (.s .z (.j [(.normal,[])] .z)) .z)))))))))))))) 102 (y0_ W.z108_ok (y0_ W.z64_ok (y0_ W.z69_ok (y0_ W.z102_ok (y0_ W.z103_ok (y0_ W.z39_ok (y0_ W.z42_ok (y0_ W.z43_ok (y0_ W.z41_ok (y0_ W.z62_ok y1_)))))))))) Tryz.func119
theorem W.z73_ok:SpecOk Tryz.prog 7 164 W.z73:=
 sEeff (an:=(.s .z (.s (.s (.j [(.normal,[(21,.B)])] .z) .z) .z))) 39 (y0_ W.z92_ok (y0_ W.z3_ok (y0_ W.z53_ok (y0_ W.z4_ok y1_)))) Tryz.func164
theorem W.z127_ok:SpecOk Tryz.prog 7 201 W.z127:=
 sEeff (an:=(.s .z (.l [(2,.I .i64),(3,.I .i64)] [(.exit 0,[])] .z))) 28 y1_ Tryz.func201
theorem W.z40_ok:SpecOk Tryz.prog 7 165 W.z40:=
 sEeff (an:=(.s .z (.s .z (.s .z (.s .z (.s .z (.s (.s .z (.l [(5,.V),(8,.I .i64)] [(.exit 0,[(5,.V)])] (.s .z (.s (.j [(.normal,[(5,.V)])] (.s .z (.s (.s (.j [(.normal,[(44,.B)])] .z) .z) (.s .z (.s .z (.s .z (.l [(61,.I .i64)] [(.exit 2,[])] .z))))))) .z)))) .z))))))) 72 (y0_ W.z127_ok (y0_ W.z72_ok (y0_ W.z79_ok (y0_ W.z77_ok (y0_ W.z81_ok (y0_ W.z55_ok (y0_ W.z82_ok y1_))))))) Tryz.func165
theorem W.z101_ok:SpecOk Tryz.prog 7 120 W.z101:=
 sEeff (an:=(.s .z (.s (.s .z (.l [(10,.I .i64)] [(.exit 0,[]),(.ret,[(4,.B),(5,.V)])] .z)) .z))) 40 (y0_ W.z40_ok (y0_ W.z73_ok (y0_ W.z82_ok y1_))) Tryz.func120
theorem W.z26_ok:SpecOk Tryz.prog 7 166 W.z26:=
 sEpur (an:=.z) 8 y1_ Tryz.func166
theorem W.z66_ok:SpecOk Tryz.prog 7 168 W.z66:=
 sEeff (an:=.z) 14 (y0_ W.z67_ok y1_) Tryz.func168
theorem W.z129_ok:SpecOk Tryz.prog 7 218 W.z129:=ycu_ Tryz.slices_Sort_int ⟨Tryz.f218,Tryz.func218,by kernel_rfl,by kernel_rfl⟩
theorem W.z30_ok:SpecOk Tryz.prog 7 202 W.z30:=
 sEeff (an:=.z) 11 (y0_ W.z129_ok (y0_ W.z31_ok y1_)) Tryz.func202
theorem W.z35_ok:SpecOk Tryz.prog 7 203 W.z35:=
 sEeff (an:=(.s .z (.s .z (.s .z (.s .z (.s .z (.s (.s .z (.j [(.normal,[])] .z)) .z))))))) 64 (y0_ W.z32_ok (y0_ W.z36_ok (y0_ W.z34_ok y1_))) Tryz.func203
theorem W.z27_ok:SpecOk Tryz.prog 7 167 W.z27:=
 sEeff (an:=(.s .z (.s .z (.s .z (.s (.s .z (.j [(.normal,[(6,.I .i64)])] .z)) .z))))) 47 (y0_ W.z35_ok (y0_ W.z30_ok y1_)) Tryz.func167
theorem W.z65_ok:SpecOk Tryz.prog 7 169 W.z65:=
 sEeff (an:=(.s .z (.s (.s .z (.s .z (.j [(.normal,[]),(.ret,[(4,.B)])] (.s (.s (.j [(.normal,[]),(.exit 0,[]),(.exit 3,[]),(.ret,[(4,.B)])] .z) .z) .z)))) .z))) 24 (y0_ W.z67_ok y1_) Tryz.func169
theorem W.z105_ok:SpecOk Tryz.prog 7 121 W.z105:=
 sEeff (an:=(.s .z (.s (.l [] [(.exit 0,[]),(.ret,[(2,.B)])] .z) .z))) 56 (y0_ W.z73_ok (y0_ W.z65_ok (y0_ W.z82_ok (y0_ W.z27_ok (y0_ W.z66_ok (y0_ W.z26_ok y1_)))))) Tryz.func121
theorem W.z107_ok:SpecOk Tryz.prog 7 122 W.z107:=
 sEeff (an:=(.s .z (.s .z (.s (.s .z (.l [(14,.I .i64)] [(.exit 0,[])] .z)) .z)))) 29 (y0_ W.z82_ok (y0_ W.z83_ok y1_)) Tryz.func122
theorem W.sat_Engine_back_def:DefOk Tryz.prog 7 115 W.z102:=
 ygd_ (an:=(.s (.s .z (.l [(14,.I .i64)] [(.exit 0,[])] (.s .z (.s .z (.s (.j [(.normal,[])] (.s .z (.s .z (.s .z (.s (.s .z (.j [(.normal,[])] .z)) .z))))) .z))))) .z)) (calls:=(tab 152 W.z71 (tab 151 W.z28 (tab 82 W.z55 (tab 150 W.z80 y3p_))))) 47 mixed (y0_ W.z71_ok (y0_ W.z28_ok (y0_ W.z55_ok (y0_ W.z80_ok y1_)))) Tryz.func115 (by kernel_rfl) rfl (by decide) (fun x σ=>by kernel_rfl)
theorem W.z99_ok:SpecOk Tryz.prog 7 69 W.z99:=
 ybk_ (an:=(.s .z (.s .z (.s .z (.l [] [(.ret,[(5,.V)])] .z))))) (calls:=(tab 122 W.z107 (tab 121 W.z105 (tab 120 W.z101 (tab 119 W.z106 (tab 118 W.z104 (tab 117 W.z76 (tab 116 W.z78 (tab 115 W.z102 (tab 105 W.z123 y3p_)))))))))) 57 mixed (y0_ W.z107_ok (y0_ W.z105_ok (y0_ W.z101_ok (y0_ W.z106_ok (y0_ W.z104_ok (y0_ W.z76_ok (y0_ W.z78_ok (y0_ W.z102_ok (y0_ W.z123_ok y1_))))))))) (sg:=W.z102) (by kernel_rfl) W.sat_Engine_back_def Tryz.func69 rfl rfl (by kernel_rfl) (by decide) rfl rfl rfl (by decide) rfl rfl rfl rfl (fun x σ=>by kernel_rfl)
theorem W.z134_ok:SpecOk Tryz.prog 7 36 W.z134:=
 sEeff (an:=(.s .z (.s .z (.s .z (.s (.s .z (.l [(9,.V),(25,.I .i64)] [(.exit 0,[(9,.V)])] .z)) (.s .z (.s .z (.s .z (.s .z (.s .z (.s (.s .z (.l [(66,.I .i64)] [(.exit 2,[])] .z)) (.s .z (.s (.j [(.normal,[(6,.B),(7,.V)])] .z) .z))))))))))))) 87 (y0_ W.z99_ok (y0_ W.z96_ok (y0_ W.z109_ok (y0_ W.z51_ok (y0_ W.z136_ok (y0_ W.z15_ok (y0_ W.z16_ok (y0_ W.z9_ok (y0_ W.z8_ok (y0_ W.z20_ok y1_)))))))))) Tryz.func36
theorem W.z130_ok:SpecOk Tryz.prog 7 14 W.z130:=
 sEeff (an:=.z) 22 (y0_ W.z134_ok (y0_ W.z60_ok (y0_ W.z133_ok y1_))) Tryz.func14
theorem W.z119_ok:SpecOk Tryz.prog 7 33 W.z119:=
 sEeff (an:=.z) 8 y1_ Tryz.func33
theorem W.z131_ok:SpecOk Tryz.prog 7 9 W.z131:=
 sEeff (an:=(.s .z (.s .z (.s (.s .z (.l [(3,.V),(8,.I .i64)] [(.exit 0,[(3,.V)])] (.s .z (.s .z (.s (.j [(.normal,[(3,.V)])] .z) .z))))) .z)))) 23 (y0_ W.z119_ok (y0_ W.z122_ok y1_)) Tryz.func9
theorem W.z111_ok:SpecOk Tryz.prog 7 6 W.z111:=
 sEeff (an:=(.s .z (.s .z (.s .z (.s (.j [(.normal,[(0,.B)])] .z) .z))))) 28 (y0_ W.z131_ok (y0_ W.z130_ok y1_)) Tryz.func6
theorem W.z116_ok:SpecOk Tryz.prog 7 7 W.z116:=
 sEpur (an:=(.s .z (.s .z (.s (.s .z (.j [(.normal,[(5,.I .i64)])] .z)) .z)))) 15 y1_ Tryz.func7
theorem W.z113_ok:SpecOk Tryz.prog 7 24 W.z113:=
 sEeff (an:=(.s .z (.s .z (.s (.s .z (.l [(5,.V),(6,.I .i64)] [(.exit 0,[(5,.V)])] .z)) .z)))) 23 y1_ Tryz.func24
theorem W.z112_ok:SpecOk Tryz.prog 7 8 W.z112:=
 sEeff (an:=(.s .z (.s .z (.s (.s .z (.l [(5,.V),(6,.I .i64)] [(.exit 0,[(5,.V)])] .z)) .z)))) 23 (y0_ W.z113_ok y1_) Tryz.func8
theorem W.z114_ok:SpecOk Tryz.prog 7 10 W.z114:=
 sEpur (an:=(.s .z (.s .z (.s (.s .z (.l [(5,.I .i64)] [(.exit 0,[]),(.ret,[(4,.B)])] .z)) .z)))) 29 y1_ Tryz.func10
theorem W.z115_ok:SpecOk Tryz.prog 7 11 W.z115:=
 sEpur (an:=(.s .z (.s .z (.s (.s .z (.l [(5,.I .i64)] [(.exit 0,[]),(.ret,[(4,.B)])] .z)) .z)))) 29 (y0_ W.z114_ok y1_) Tryz.func11
theorem W.z110_ok:SpecOk Tryz.prog 7 3 W.z110:=
 sEeff (an:=(.s .z (.s .z (.s .z (.s .z (.s .z (.s .z (.s .z (.s .z (.s (.s .z (.l [(8,.V),(9,.I .i64)] [(.exit 0,[(8,.V)])] (.s .z (.s (.j [(.normal,[(8,.V)])] (.s .z (.s (.s .z (.l [(10,.B),(11,.I .i64)] [(.exit 2,[(10,.B)])] (.s .z (.s (.j [(.normal,[(10,.B)])] .z) .z)))) .z))) .z)))) (.s (.j [(.normal,[(4,.B)])] .z) .z))))))))))) 65 (y0_ W.z115_ok (y0_ W.z114_ok (y0_ W.z131_ok (y0_ W.z112_ok (y0_ W.z116_ok (y0_ W.z111_ok y1_)))))) Tryz.func3
end
end Go.Proofs.YtekehmgfedmflaaGreatDoor.A
end
