/- Parts of the proof, one behind another. -/
import Derived.Test.YtafbldhedkallaaGreatDoorProg
import Derived.Test.YtafbldhedkallaaGreatDoorX6
import Derived.Test.YtafbldhedkallaaGreatDoorX1
import Derived.Test.YtafbldhedkallaaGreatDoorX4
import Derived.Test.YtafbldhedkallaaGreatDoorX5
import Derived.Test.YtafbldhedkallaaGreatDoorX2
set_option linter.all false
noncomputable section
namespace Go.Proofs.YtafbldhedkallaaGreatDoor.A
set_option maxRecDepth 100000
section
open Go
theorem mixed:Tryz.prog.follows .mixedOrders=true:=by kernel_rfl
theorem sEeff{calls:FuncId->Option Spec}{f:FuncId}{fn:Func}{an:Ann}{ks pks:List Kd}{G:Tu pks->Heap->Option (Tu ks×Heap)}(n:Nat)(hC:∀g s,calls g=some s->SpecOk Tryz.prog 7 g s)(hf:Tryz.prog.funcs[f]?=some fn)(hb:fn.body=some (fn.body.getD .skip):=by kernel_rfl)(hn:fn.ntmps=n:=by rfl)(hnm:(fn.name == "runtime.NumGoroutine")=false:=by kernel_rfl)(hl:pks.length<=n:=by decide)(heq:∀x σ,G x σ=denF ⟨Tryz.prog,7,n,calls⟩ fn.results.toList (fn.body.getD .skip) an ks (Tu.vals pks x) σ:=by intro x σ;kernel_rfl):SpecOk Tryz.prog 7 f (.eff ks fun args σ=>packs args pks fun x=>G x σ):=yeu_ n mixed hC hf hb hn hnm hl heq
theorem sEpur{calls:FuncId->Option Spec}{f:FuncId}{fn:Func}{an:Ann}{ks pks:List Kd}{G:Tu pks->Heap->Option (Tu ks)}(n:Nat)(hC:∀g s,calls g=some s->SpecOk Tryz.prog 7 g s)(hf:Tryz.prog.funcs[f]?=some fn)(hb:fn.body=some (fn.body.getD .skip):=by kernel_rfl)(hn:fn.ntmps=n:=by rfl)(hnm:(fn.name == "runtime.NumGoroutine")=false:=by kernel_rfl)(hl:pks.length<=n:=by decide)(heq:∀x σ,G x σ=denP ⟨Tryz.prog,7,n,calls⟩ fn.results.toList (fn.body.getD .skip) an ks (Tu.vals pks x) σ:=by intro x σ;kernel_rfl):SpecOk Tryz.prog 7 f (.pur ks fun args σ=>packs args pks fun x=>G x σ):=yex_ n mixed hC hf hb hn hnm hl heq
theorem W.z43_ok:SpecOk Tryz.prog 7 63 W.z43:=
 sEpur (an:=(.s .z (.s (.j [(.normal,[(4,.B)])] .z) .z))) 18 y1_ Tryz.func63
theorem W.z42_ok:SpecOk Tryz.prog 7 146 W.z42:=
 sEpur (an:=.z) 9 (y0_ W.z43_ok y1_) Tryz.func146
theorem W.z45_ok:SpecOk Tryz.prog 7 107 W.z45:=
 sEpur (an:=.z) 7 y1_ Tryz.func107
theorem W.z10_ok:SpecOk Tryz.prog 7 222 W.z10:=
 sEpur (an:=.z) 6 y1_ Tryz.func222
theorem W.z8_ok:SpecOk Tryz.prog 7 198 W.z8:=
 sEpur (an:=.z) 20 (y0_ W.z10_ok y1_) Tryz.func198
theorem W.z9_ok:SpecOk Tryz.prog 7 197 W.z9:=
 sEpur (an:=(.s .z (.s .z (.s (.s .z (.l [(8,.I .i64)] [(.exit 0,[]),(.ret,[(2,.I .i64)])] .z)) .z)))) 18 y1_ Tryz.func197
theorem W.z46_ok:SpecOk Tryz.prog 7 151 W.z46:=
 sEeff (an:=.z) 15 (y0_ W.z9_ok (y0_ W.z8_ok (y0_ W.z45_ok y1_))) Tryz.func151
theorem W.z5_ok:SpecOk Tryz.prog 7 101 W.z5:=
 sEpur (an:=.z) 9 y1_ Tryz.func101
theorem W.z59_ok:SpecOk Tryz.prog 7 103 W.z59:=
 sEpur (an:=.z) 12 (y0_ W.z43_ok (y0_ W.z5_ok y1_)) Tryz.func103
theorem W.z72_ok:SpecOk Tryz.prog 7 64 W.z72:=
 sEpur (an:=.z) 8 (y0_ W.z5_ok y1_) Tryz.func64
theorem W.z101_ok:SpecOk Tryz.prog 7 62 W.z101:=
 sEpur (an:=.z) 12 (y0_ W.z43_ok (y0_ W.z72_ok y1_)) Tryz.func62
theorem W.z4_ok:SpecOk Tryz.prog 7 172 W.z4:=
 sEpur (an:=(.s .z (.s .z (.s .z (.s (.s (.j [(.normal,[(29,.B)])] .z) (.j [(.normal,[(5,.I .i64)])] .z)) .z))))) 33 (y0_ W.z45_ok (y0_ W.z43_ok y1_)) Tryz.func172
theorem W.z71_ok:SpecOk Tryz.prog 7 120 W.z71:=
 sEpur (an:=.z) 11 (y0_ W.z4_ok y1_) Tryz.func120
theorem W.z37_ok:SpecOk Tryz.prog 7 204 W.z37:=
 sEpur (an:=.z) 8 (y0_ W.z71_ok y1_) Tryz.func204
def W.z23.n(n:Nat):Spec:=.eff [] fun args σ=>packs args [.I .i64,.V,.V,.V] fun x=>S.z23.n n x.1 x.2.1 x.2.2.1 x.2.2.2 σ
theorem W.z23.n_ok:∀n,SpecOk Tryz.prog 7 206 (W.z23.n n)
 |0=>y6s_ Tryz.func206 rfl (by kernel_rfl) (fun args σ=>y8z_ _ _)
 |n+1=>sEeff (an:=(.s (.j [(.normal,[(39,.B)])] .z) .z)) 60 (y0_ (W.z23.n_ok n) y1_) Tryz.func206
theorem W.z23_ok:SpecOk Tryz.prog 7 206 W.z23:=y93_ (ks:=[]) (pks:=[.I .i64,.V,.V,.V]) (G:=fun n (x:Tu [.I .i64,.V,.V,.V]) σ=>S.z23.n n x.1 x.2.1 x.2.2.1 x.2.2.2 σ) W.z23.n_ok
theorem W.z105_ok:SpecOk Tryz.prog 7 66 W.z105:=
 sEpur (an:=.z) 12 (y0_ W.z43_ok (y0_ W.z72_ok y1_)) Tryz.func66
theorem W.z30_ok:SpecOk Tryz.prog 7 183 W.z30:=
 sEpur (an:=.z) 12 (y0_ W.z43_ok y1_) Tryz.func183
theorem W.z94_ok:SpecOk Tryz.prog 7 188 W.z94:=
 sEpur (an:=.z) 11 (y0_ W.z43_ok y1_) Tryz.func188
theorem W.z2_ok:SpecOk Tryz.prog 7 192 W.z2:=
 sEeff (an:=(.s .z (.s (.s (.j [(.normal,[(19,.B)])] .z) .z) (.s (.s .z (.j [(.normal,[])] .z)) .z)))) 35 (y0_ W.z4_ok (y0_ W.z43_ok y1_)) Tryz.func192
theorem W.z90_ok:SpecOk Tryz.prog 7 191 W.z90:=
 sEeff (an:=.z) 16 (y0_ W.z2_ok (y0_ W.z4_ok y1_)) Tryz.func191
theorem W.z0_ok:SpecOk Tryz.prog 7 194 W.z0:=
 sEpur (an:=(.s .z (.s .z (.s (.s .z (.l [(6,.I .i64),(7,.I .i64),(8,.I .i64),(14,.I .i64)] [(.exit 0,[(6,.I .i64),(7,.I .i64),(8,.I .i64)])] (.s .z (.s .z (.s (.j [(.normal,[(6,.I .i64),(7,.I .i64),(8,.I .i64)])] (.s .z (.s .z (.s .z (.s (.s .z (.j [(.normal,[(8,.I .i64)])] .z)) (.s (.j [(.normal,[(33,.B)])] .z) .z)))))) .z))))) (.s (.s (.j [(.normal,[(43,.B)])] .z) (.j [(.normal,[(6,.I .i64)])] .z)) .z))))) 46 (y0_ W.z4_ok y1_) Tryz.func194
theorem W.z91_ok:SpecOk Tryz.prog 7 193 W.z91:=
 sEeff (an:=(.s .z (.s .z (.s (.j [(.normal,[(5,.B)])] .z) .z)))) 31 (y0_ W.z90_ok (y0_ W.z0_ok y1_)) Tryz.func193
theorem W.z99_ok:SpecOk Tryz.prog 7 190 W.z99:=
 sEpur (an:=.z) 7 y1_ Tryz.func190
theorem W.z97_ok:SpecOk Tryz.prog 7 211 W.z97:=
 sEpur (an:=.z) 7 y1_ Tryz.func211
theorem W.z132_ok:SpecOk Tryz.prog 7 100 W.z132:=
 sEeff (an:=(.s .z (.s (.s .z (.l [(8,.I .i64)] [(.exit 0,[]),(.ret,[(4,.I .i64)])] .z)) .z))) 19 (y0_ W.z97_ok (y0_ W.z99_ok (y0_ W.z91_ok (y0_ W.z90_ok (y0_ W.z94_ok (y0_ W.z30_ok (y0_ W.z105_ok (y0_ W.z23_ok (y0_ W.z37_ok (y0_ W.z101_ok (y0_ W.z59_ok (y0_ W.z46_ok (y0_ W.z42_ok y1_))))))))))))) Tryz.func100
theorem W.z128_ok:SpecOk Tryz.prog 7 61 W.z128:=
 sEeff (an:=.z) 9 (y0_ W.z132_ok y1_) Tryz.func61
theorem W.z41_ok:SpecOk Tryz.prog 7 95 W.z41:=
 sEeff (an:=(.s .z (.s .z (.s (.s .z (.l [(3,.I .i64),(11,.I .i64)] [(.exit 0,[(3,.I .i64)])] .z)) (.s (.s (.j [(.normal,[(37,.B)])] .z) .z) (.s (.s .z (.l [(42,.I .i64)] [(.exit 2,[]),(.ret,[(2,.V)])] .z)) .z)))))) 56 (y0_ W.z128_ok y1_) Tryz.func95
theorem W.z125_ok:SpecOk Tryz.prog 7 78 W.z125:=
 sEeff (an:=.z) 8 y1_ Tryz.func78
theorem W.z48_ok:SpecOk Tryz.prog 7 99 W.z48:=
 sEeff (an:=.z) 6 (y0_ W.z125_ok y1_) Tryz.func99
theorem W.z93_ok:SpecOk Tryz.prog 7 143 W.z93:=
 sEeff (an:=.z) 9 (y0_ W.z128_ok y1_) Tryz.func143
theorem W.z6_ok:SpecOk Tryz.prog 7 128 W.z6:=
 sEpur (an:=.z) 6 y1_ Tryz.func128
theorem W.z7_ok:SpecOk Tryz.prog 7 149 W.z7:=
 sEeff (an:=.z) 9 (y0_ W.z6_ok y1_) Tryz.func149
theorem W.z89_ok:SpecOk Tryz.prog 7 145 W.z89:=
 sEeff (an:=(.s .z (.s .z (.s .z (.s .z (.s .z (.s (.s .z (.l [(26,.I .i64)] [(.exit 0,[]),(.ret,[(4,.V),(5,.B)])] .z)) (.s (.s .z (.l [(40,.I .i64)] [(.exit 2,[]),(.ret,[(4,.V),(5,.B)])] .z)) (.s (.l [] [(.exit 4,[]),(.ret,[(4,.V),(5,.B)])] (.s .z (.s .z (.s .z (.s .z (.l [(65,.I .i64)] [(.exit 6,[]),(.ret,[(4,.V),(5,.B)])] .z)))))) .z))))))))) 75 (y0_ W.z91_ok (y0_ W.z90_ok (y0_ W.z7_ok y1_))) Tryz.func145
theorem W.z88_ok:SpecOk Tryz.prog 7 94 W.z88:=
 sEeff (an:=(.s .z (.s .z (.s .z (.s (.s .z (.l [(5,.V),(19,.I .i64)] [(.exit 0,[(5,.V)])] .z)) .z))))) 37 (y0_ W.z89_ok (y0_ W.z93_ok y1_)) Tryz.func94
theorem W.z129_ok:SpecOk Tryz.prog 7 189 W.z129:=
 sEeff (an:=(.s .z (.s .z (.s .z (.s (.s .z (.l [(5,.I .i64),(6,.I .i64)] [(.exit 0,[(5,.I .i64)])] (.s .z (.s (.j [(.normal,[(5,.I .i64)])] .z) .z)))) .z))))) 42 (y0_ W.z97_ok (y0_ W.z99_ok (y0_ W.z91_ok (y0_ W.z90_ok (y0_ W.z94_ok (y0_ W.z30_ok (y0_ W.z105_ok (y0_ W.z23_ok (y0_ W.z37_ok (y0_ W.z101_ok (y0_ W.z59_ok (y0_ W.z46_ok (y0_ W.z42_ok (y0_ W.z132_ok y1_)))))))))))))) Tryz.func189
theorem W.z98_ok:SpecOk Tryz.prog 7 144 W.z98:=
 sEeff (an:=.z) 9 (y0_ W.z129_ok (y0_ W.z125_ok y1_)) Tryz.func144
theorem W.z131_ok:SpecOk Tryz.prog 7 138 W.z131:=
 sEeff (an:=(.s .z (.s (.s .z (.j [(.normal,[])] .z)) (.s (.s .z (.s .z (.j [(.normal,[(0,.V)])] .z))) .z)))) 27 y1_ Tryz.func138
theorem W.z127_ok:SpecOk Tryz.prog 7 90 W.z127:=
 sEeff (an:=(.s .z (.s .z (.s (.s .z (.l [(3,.I .i64),(11,.I .i64)] [(.exit 0,[(3,.I .i64)])] (.s .z (.s .z (.s (.j [(.normal,[(3,.I .i64)])] .z) .z))))) (.s .z (.s (.s .z (.l [(6,.V),(27,.I .i64)] [(.exit 2,[(6,.V)])] .z)) .z)))))) 36 (y0_ W.z131_ok y1_) Tryz.func90
theorem W.z86_ok:SpecOk Tryz.prog 7 93 W.z86:=
 sEeff (an:=(.s .z (.s .z (.s (.s (.j [(.normal,[(18,.B)])] .z) .z) (.s (.s .z (.l [(29,.I .i64)] [(.exit 0,[]),(.ret,[(4,.B)])] .z)) .z))))) 52 (y0_ W.z127_ok (y0_ W.z98_ok (y0_ W.z93_ok (y0_ W.z88_ok y1_)))) Tryz.func93
theorem W.z47_ok:SpecOk Tryz.prog 7 60 W.z47:=
 sEeff (an:=.z) 24 (y0_ W.z86_ok (y0_ W.z48_ok y1_)) Tryz.func60
theorem W.z1_ok:SpecOk Tryz.prog 7 127 W.z1:=
 sEeff (an:=(.l [] [(.exit 0,[])] .z)) 21 (y0_ W.z6_ok y1_) Tryz.func127
theorem W.z64_ok:SpecOk Tryz.prog 7 76 W.z64:=
 sEeff (an:=(.s .z (.l [] [(.exit 0,[])] .z))) 48 (y0_ W.z5_ok (y0_ W.z1_ok y1_)) Tryz.func76
theorem W.z57_ok:SpecOk Tryz.prog 7 97 W.z57:=
 sEeff (an:=.z) 14 (y0_ W.z64_ok (y0_ W.z7_ok y1_)) Tryz.func97
theorem W.z25_ok:SpecOk Tryz.prog 7 154 W.z25:=
 sEpur (an:=(.s .z (.s (.j [(.normal,[(4,.B)])] .z) .z))) 16 y1_ Tryz.func154
theorem W.z21_ok:SpecOk Tryz.prog 7 199 W.z21:=
 sEpur (an:=(.s .z (.s (.j [(.normal,[(6,.B)])] .z) .z))) 44 y1_ Tryz.func199
theorem W.z26_ok:SpecOk Tryz.prog 7 200 W.z26:=
 sEeff (an:=.z) 21 y1_ Tryz.func200
theorem W.z28_ok:SpecOk Tryz.prog 7 155 W.z28:=
 sEeff (an:=(.s .z (.s (.l [(1,.I .i64)] [(.exit 0,[(1,.I .i64)])] (.s (.s (.j [(.normal,[(27,.B)])] .z) .z) .z)) .z))) 47 (y0_ W.z26_ok (y0_ W.z21_ok y1_)) Tryz.func155
theorem W.z20_ok:SpecOk Tryz.prog 7 108 W.z20:=
 sEeff (an:=(.s .z (.s (.s (.j [(.normal,[(18,.B)])] .z) .z) .z))) 37 (y0_ W.z28_ok (y0_ W.z25_ok y1_)) Tryz.func108
theorem W.z16_ok:SpecOk Tryz.prog 7 77 W.z16:=
 sEeff (an:=(.l [] [(.exit 0,[])] .z)) 38 (y0_ W.z20_ok (y0_ W.z6_ok y1_)) Tryz.func77
theorem W.z29_ok:SpecOk Tryz.prog 7 98 W.z29:=
 sEeff (an:=.z) 12 (y0_ W.z16_ok y1_) Tryz.func98
theorem W.z102_ok:SpecOk Tryz.prog 7 35 W.z102:=
 sEeff (an:=(.s .z (.s .z (.l [] [(.exit 0,[])] .z)))) 36 (y0_ W.z72_ok (y0_ W.z16_ok (y0_ W.z64_ok y1_))) Tryz.func35
theorem W.z115_ok:SpecOk Tryz.prog 7 59 W.z115:=
 sEeff (an:=.z) 15 (y0_ W.z102_ok (y0_ W.z29_ok (y0_ W.z57_ok y1_))) Tryz.func59
theorem W.z114_ok:SpecOk Tryz.prog 7 25 W.z114:=
 sEeff (an:=.z) 9 (y0_ W.z115_ok (y0_ W.z47_ok y1_)) Tryz.func25
theorem W.z134_ok:SpecOk Tryz.prog 7 150 W.z134:=ybw_ Tryz.sortsOrd Tryz.sortsNone ⟨Tryz.f150,Tryz.func150,by kernel_rfl,by kernel_rfl⟩
theorem W.z126_ok:SpecOk Tryz.prog 7 153 W.z126:=
 sEeff (an:=(.s .z (.s .z (.s (.s .z (.l [(3,.I .i64)] [(.exit 0,[]),(.ret,[(2,.V)])] (.s .z (.s (.s .z (.s (.s .z (.s (.s .z (.l [(3,.I .i64),(5,.I .i64)] [(.exit 2,[(3,.I .i64)])] (.s .z (.s (.j [(.normal,[(3,.I .i64)])] .z) .z)))) .z)) .z)) .z)))) .z)))) 61 y1_ Tryz.func153
theorem W.z124_ok:SpecOk Tryz.prog 7 152 W.z124:=
 sEpur (an:=.z) 9 y1_ Tryz.func152
theorem W.z44_ok:SpecOk Tryz.prog 7 102 W.z44:=
 sEeff (an:=(.s .z (.s .z (.s .z (.s .z (.s (.s .z (.l [(5,.I .i64)] [(.exit 0,[]),(.ret,[(2,.V),(3,.B)])] .z)) .z)))))) 33 (y0_ W.z45_ok (y0_ W.z124_ok (y0_ W.z126_ok (y0_ W.z134_ok (y0_ W.z125_ok y1_))))) Tryz.func102
theorem W.z84_ok:SpecOk Tryz.prog 7 104 W.z84:=
 sEpur (an:=.z) 10 y1_ Tryz.func104
theorem W.z78_ok:SpecOk Tryz.prog 7 105 W.z78:=
 sEeff (an:=.z) 30 y1_ Tryz.func105
theorem W.z58_ok:SpecOk Tryz.prog 7 65 W.z58:=
 sEeff (an:=(.s .z (.s .z (.s (.s (.j [(.normal,[(22,.B)])] .z) .z) (.s .z (.s .z (.s (.s .z (.j [(.normal,[])] (.s (.s .z (.l [(45,.I .i64)] [(.exit 0,[])] .z)) .z))) .z))))))) 72 (y0_ W.z78_ok (y0_ W.z84_ok (y0_ W.z128_ok (y0_ W.z44_ok y1_)))) Tryz.func65
theorem W.z100_ok:SpecOk Tryz.prog 7 27 W.z100:=
 sEeff (an:=.z) 14 (y0_ W.z58_ok (y0_ W.z128_ok y1_)) Tryz.func27
theorem W.z69_ok:SpecOk Tryz.prog 7 106 W.z69:=
 sEeff (an:=(.s .z (.s (.s (.j [(.normal,[(15,.B)])] .z) .z) .z))) 29 (y0_ W.z125_ok y1_) Tryz.func106
theorem W.z3_ok:SpecOk Tryz.prog 7 156 W.z3:=
 sEeff (an:=(.s (.j [(.normal,[(14,.B)])] .z) .z)) 21 y1_ Tryz.func156
theorem W.z60_ok:SpecOk Tryz.prog 7 109 W.z60:=
 sEeff (an:=(.s .z (.s .z (.s .z (.s (.s .z (.l [(31,.I .i64)] [(.exit 0,[])] .z)) .z))))) 83 (y0_ W.z3_ok (y0_ W.z45_ok y1_)) Tryz.func109
theorem W.z107_ok:SpecOk Tryz.prog 7 67 W.z107:=
 sEeff (an:=(.s (.s .z (.l [(14,.I .i64)] [(.exit 0,[])] (.s .z (.s .z (.s (.j [(.normal,[])] (.s .z (.s .z (.s .z (.s (.s .z (.j [(.normal,[])] .z)) .z))))) .z))))) .z)) 47 (y0_ W.z60_ok (y0_ W.z20_ok (y0_ W.z45_ok (y0_ W.z69_ok y1_)))) Tryz.func67
theorem W.z80_ok:SpecOk Tryz.prog 7 231 W.z80:=
 sEpur (an:=.z) 26 (y0_ W.z45_ok (y0_ W.z4_ok y1_)) Tryz.func231
theorem W.z76_ok:SpecOk Tryz.prog 7 223 W.z76:=
 sEeff (an:=(.s .z (.s (.s .z (.l [(6,.I .i64),(7,.I .i64)] [(.exit 0,[(6,.I .i64)])] (.s .z (.s (.j [(.normal,[(6,.I .i64)])] .z) .z)))) .z))) 45 (y0_ W.z80_ok y1_) Tryz.func223
theorem W.z83_ok:SpecOk Tryz.prog 7 201 W.z83:=
 sEeff (an:=(.s .z (.s .z (.s .z (.s .z (.s .z (.s .z (.l [(35,.I .i64)] [(.exit 0,[])] (.s .z (.s .z (.s (.j [(.normal,[])] (.s .z (.s (.j [(.normal,[(46,.B)])] .z) .z))) .z))))))))))) 66 (y0_ W.z84_ok (y0_ W.z76_ok y1_)) Tryz.func201
theorem W.z81_ok:SpecOk Tryz.prog 7 173 W.z81:=
 sEeff (an:=.z) 43 (y0_ W.z45_ok (y0_ W.z2_ok y1_)) Tryz.func173
theorem W.z74_ok:SpecOk Tryz.prog 7 157 W.z74:=
 sEeff (an:=(.s .z (.s .z (.s .z (.s (.j [(.normal,[]),(.ret,[(4,.B),(5,.B)])] (.s (.j [(.normal,[(19,.B)])] .z) (.s .z (.s (.j [(.normal,[(34,.B)])] .z) .z)))) (.s .z (.s (.s .z (.j [(.normal,[(7,.I .i64)])] .z)) .z))))))) 90 (y0_ W.z45_ok (y0_ W.z81_ok (y0_ W.z4_ok (y0_ W.z83_ok y1_)))) Tryz.func157
theorem W.z73_ok:SpecOk Tryz.prog 7 110 W.z73:=
 sEeff (an:=(.s .z (.s .z (.s .z (.s .z (.s (.s .z (.l [(4,.I .i64),(18,.I .i64)] [(.exit 0,[(4,.I .i64)])] (.s .z (.s .z (.s (.j [(.normal,[(4,.I .i64)])] (.s .z (.s .z (.s .z (.s .z (.s .z (.s (.s .z (.j [(.normal,[(4,.I .i64)])] .z)) .z))))))) .z))))) .z)))))) 57 (y0_ W.z74_ok (y0_ W.z78_ok y1_)) Tryz.func110
theorem W.z79_ok:SpecOk Tryz.prog 7 202 W.z79:=
 sEeff (an:=(.s .z (.s .z (.s (.s .z (.l [(6,.I .i64)] [(.exit 0,[]),(.ret,[(4,.B)])] .z)) .z)))) 65 (y0_ W.z84_ok (y0_ W.z4_ok y1_)) Tryz.func202
theorem W.z82_ok:SpecOk Tryz.prog 7 158 W.z82:=
 sEeff (an:=(.s .z (.s .z (.s (.s (.j [(.normal,[(39,.B)])] .z) .z) (.s (.s .z (.j [(.normal,[])] .z)) (.s (.s .z (.j [(.normal,[]),(.ret,[(6,.B),(7,.B)])] .z)) (.s (.s .z (.j [(.normal,[])] .z)) .z))))))) 104 (y0_ W.z78_ok (y0_ W.z45_ok (y0_ W.z81_ok (y0_ W.z79_ok (y0_ W.z4_ok y1_))))) Tryz.func158
theorem W.z75_ok:SpecOk Tryz.prog 7 111 W.z75:=
 sEeff (an:=(.s .z (.s .z (.s .z (.s .z (.s .z (.s (.s .z (.l [(6,.V),(7,.I .i64),(29,.I .i64)] [(.exit 0,[(6,.V),(7,.I .i64)])] (.s .z (.s .z (.s (.j [(.normal,[(6,.V),(7,.I .i64)])] (.s .z (.s .z (.s .z (.s (.s .z (.j [(.normal,[(6,.V)])] .z)) .z))))) .z))))) .z))))))) 72 (y0_ W.z82_ok (y0_ W.z84_ok y1_)) Tryz.func111
theorem W.z67_ok:SpecOk Tryz.prog 7 68 W.z67:=
 sEeff (an:=(.s .z (.s .z (.s (.l [] [(.exit 0,[]),(.ret,[(2,.I .i64)])] .z) .z)))) 43 (y0_ W.z75_ok (y0_ W.z73_ok y1_)) Tryz.func68
theorem W.z65_ok:SpecOk Tryz.prog 7 69 W.z65:=
 sEpur (an:=.z) 8 y1_ Tryz.func69
theorem W.z109_ok:SpecOk Tryz.prog 7 70 W.z109:=
 sEeff (an:=(.s .z (.s .z (.s (.s .z (.l [(5,.V),(13,.I .i64)] [(.exit 0,[(5,.V)])] .z)) .z)))) 36 y1_ Tryz.func70
theorem W.z49_ok:SpecOk Tryz.prog 7 112 W.z49:=
 sEeff (an:=(.s .z (.s .z (.s .z (.s (.j [(.normal,[(2,.B)])] .z) .z))))) 33 y1_ Tryz.func112
theorem W.z77_ok:SpecOk Tryz.prog 7 203 W.z77:=
 sEpur (an:=(.s .z (.s (.j [(.normal,[(4,.B)])] .z) .z))) 26 y1_ Tryz.func203
theorem W.z61_ok:SpecOk Tryz.prog 7 159 W.z61:=
 sEeff (an:=.z) 18 (y0_ W.z125_ok (y0_ W.z77_ok y1_)) Tryz.func159
theorem W.z36_ok:SpecOk Tryz.prog 7 160 W.z36:=
 sEeff (an:=.z) 9 (y0_ W.z128_ok y1_) Tryz.func160
theorem W.z66_ok:SpecOk Tryz.prog 7 164 W.z66:=
 sEpur (an:=(.s .z (.s (.s (.j [(.normal,[(15,.B)])] .z) .z) .z))) 23 y1_ Tryz.func164
theorem W.z38_ok:SpecOk Tryz.prog 7 161 W.z38:=
 sEpur (an:=(.s .z (.s .z (.s (.s .z (.l [(5,.I .i64),(10,.I .i64)] [(.exit 0,[(5,.I .i64)])] .z)) .z)))) 22 (y0_ W.z66_ok (y0_ W.z45_ok y1_)) Tryz.func161
theorem W.z39_ok:SpecOk Tryz.prog 7 162 W.z39:=
 sEeff (an:=(.s .z (.l [(12,.I .i64)] [(.exit 0,[])] (.s .z (.s .z (.s (.j [(.normal,[])] (.s .z (.s .z (.s .z (.s (.s (.j [(.normal,[(45,.B)])] .z) .z) .z))))) .z)))))) 85 (y0_ W.z66_ok (y0_ W.z45_ok y1_)) Tryz.func162
theorem W.z70_ok:SpecOk Tryz.prog 7 163 W.z70:=
 sEeff (an:=.z) 8 (y0_ W.z125_ok y1_) Tryz.func163
theorem W.z31_ok:SpecOk Tryz.prog 7 116 W.z31:=
 sEpur (an:=.z) 12 (y0_ W.z38_ok y1_) Tryz.func116
theorem W.z34_ok:SpecOk Tryz.prog 7 115 W.z34:=
 sEeff (an:=(.s .z (.s .z (.s (.s .z (.l [(11,.I .i64)] [(.exit 0,[])] .z)) .z)))) 23 (y0_ W.z66_ok (y0_ W.z45_ok y1_)) Tryz.func115
theorem W.z68_ok:SpecOk Tryz.prog 7 165 W.z68:=
 sEpur (an:=(.s .z (.s (.s (.j [(.normal,[(15,.B)])] .z) .z) .z))) 23 y1_ Tryz.func165
theorem W.z33_ok:SpecOk Tryz.prog 7 113 W.z33:=
 sEeff (an:=(.s .z (.s .z (.s (.s (.j [(.normal,[(29,.B)])] .z) .z) (.s .z (.s .z (.s .z (.s (.s .z (.l [(9,.I .i64)] [(.exit 0,[]),(.ret,[(5,.B)])] (.s .z (.s (.j [(.normal,[]),(.ret,[(5,.B)])] (.s .z (.s .z (.s (.s (.j [(.normal,[(72,.B)])] .z) .z) .z)))) .z)))) .z)))))))) 114 (y0_ W.z68_ok (y0_ W.z34_ok (y0_ W.z31_ok (y0_ W.z66_ok (y0_ W.z45_ok (y0_ W.z70_ok (y0_ W.z39_ok (y0_ W.z38_ok (y0_ W.z36_ok (y0_ W.z65_ok (y0_ W.z61_ok y1_))))))))))) Tryz.func113
def W.z40.n(n:Nat):Spec:=.eff [.B] fun args σ=>packs args [.V,.I .i64] fun x=>S.z40.n n x.1 x.2 σ
theorem W.z40.n_ok:∀n,SpecOk Tryz.prog 7 166 (W.z40.n n)
 |0=>y6s_ Tryz.func166 rfl (by kernel_rfl) (fun args σ=>y8z_ _ _)
 |n+1=>sEeff (an:=(.s .z (.s .z (.s .z (.s .z (.s (.s .z (.j [(.normal,[(8,.B)])] (.s (.s .z (.l [(8,.B),(39,.I .i64)] [(.exit 0,[(8,.B)])] (.s .z (.s .z (.s (.s .z (.s .z (.s (.j [(.normal,[(62,.B)])] .z) .z))) .z))))) .z))) .z)))))) 71 (y0_ (W.z40.n_ok n) (y0_ W.z45_ok (y0_ W.z61_ok (y0_ W.z68_ok y1_)))) Tryz.func166
theorem W.z40_ok:SpecOk Tryz.prog 7 166 W.z40:=y93_ (ks:=[.B]) (pks:=[.V,.I .i64]) (G:=fun n (x:Tu [.V,.I .i64]) σ=>S.z40.n n x.1 x.2 σ) W.z40.n_ok
theorem W.z35_ok:SpecOk Tryz.prog 7 114 W.z35:=
 sEeff (an:=(.s .z (.s .z (.s (.s .z (.l [(18,.I .i64)] [(.exit 0,[])] .z)) (.s .z (.s (.s .z (.l [(8,.V),(31,.I .i64)] [(.exit 2,[(8,.V)])] (.s .z (.s .z (.s (.j [(.normal,[(8,.V)])] (.s .z (.s (.s (.j [(.normal,[(43,.B)])] .z) .z) .z))) .z))))) .z)))))) 50 (y0_ W.z40_ok (y0_ W.z45_ok y1_)) Tryz.func114
theorem W.z24_ok:SpecOk Tryz.prog 7 205 W.z24:=
 sEeff (an:=(.s .z (.s (.l [(1,.I .i64)] [(.exit 0,[(1,.I .i64)])] (.s .z (.s (.s (.j [(.normal,[(42,.B)])] .z) (.j [(.normal,[(5,.I .i64)])] .z)) (.s (.s (.j [(.normal,[(64,.B)])] .z) .z) .z)))) .z))) 80 (y0_ W.z26_ok (y0_ W.z21_ok y1_)) Tryz.func205
theorem W.z15_ok:SpecOk Tryz.prog 7 167 W.z15:=
 sEeff (an:=(.s .z (.s .z (.s .z (.s .z (.s (.s .z (.s .z (.j [(.normal,[])] .z))) .z)))))) 62 (y0_ W.z24_ok (y0_ W.z28_ok (y0_ W.z25_ok y1_))) Tryz.func167
theorem W.z17_ok:SpecOk Tryz.prog 7 168 W.z17:=
 sEeff (an:=(.s (.s .z (.l [(9,.I .i64)] [(.exit 0,[])] .z)) (.s .z (.l [(3,.I .i64)] [(.exit 2,[])] .z)))) 35 (y0_ W.z24_ok y1_) Tryz.func168
theorem W.z108_ok:SpecOk Tryz.prog 7 117 W.z108:=
 sEeff (an:=(.s (.s .z (.l [(8,.I .i64)] [(.exit 0,[])] .z)) (.s .z (.s .z (.s (.s (.s .z (.l [(40,.I .i64)] [(.exit 2,[])] .z)) .z) .z))))) 55 (y0_ W.z17_ok (y0_ W.z15_ok y1_)) Tryz.func117
theorem W.z54_ok:SpecOk Tryz.prog 7 169 W.z54:=
 sEeff (an:=.z) 35 y1_ Tryz.func169
theorem W.z51_ok:SpecOk Tryz.prog 7 118 W.z51:=
 sEeff (an:=(.s .z (.s (.s (.j [(.normal,[(19,.B)])] .z) .z) .z))) 30 (y0_ W.z54_ok y1_) Tryz.func118
theorem W.z50_ok:SpecOk Tryz.prog 7 170 W.z50:=
 sEeff (an:=(.s .z (.s (.j [(.normal,[(4,.B)])] .z) .z))) 15 (y0_ W.z54_ok y1_) Tryz.func170
theorem W.z63_ok:SpecOk Tryz.prog 7 171 W.z63:=
 sEeff (an:=(.s .z (.s .z (.s (.s .z (.l [(20,.I .i64)] [(.exit 0,[]),(.ret,[(4,.B)])] (.s .z (.s .z (.s (.s .z (.s (.j [(.normal,[(42,.B)])] .z) .z)) .z))))) .z)))) 59 (y0_ W.z45_ok (y0_ W.z4_ok (y0_ W.z77_ok y1_))) Tryz.func171
theorem W.z113_ok:SpecOk Tryz.prog 7 119 W.z113:=
 sEeff (an:=(.s .z (.s .z (.s (.s .z (.l [(2,.V),(13,.I .i64)] [(.exit 0,[(2,.V)])] (.s .z (.s .z (.s (.j [(.normal,[(2,.V)])] (.s .z (.s .z (.s (.s (.j [(.normal,[(45,.B)])] .z) .z) .z)))) .z))))) .z)))) 66 (y0_ W.z63_ok (y0_ W.z50_ok (y0_ W.z61_ok (y0_ W.z107_ok y1_)))) Tryz.func119
theorem W.z111_ok:SpecOk Tryz.prog 7 71 W.z111:=
 sEeff (an:=(.s .z (.s .z (.s .z (.s .z (.s .z (.s .z (.s .z (.s .z (.s .z (.s .z (.s (.s .z (.s .z (.j [(.normal,[])] .z))) (.s .z (.s (.s .z (.j [(.normal,[])] .z)) .z)))))))))))))) 102 (y0_ W.z113_ok (y0_ W.z51_ok (y0_ W.z58_ok (y0_ W.z107_ok (y0_ W.z108_ok (y0_ W.z31_ok (y0_ W.z34_ok (y0_ W.z35_ok (y0_ W.z33_ok (y0_ W.z49_ok y1_)))))))))) Tryz.func71
theorem W.z62_ok:SpecOk Tryz.prog 7 121 W.z62:=
 sEeff (an:=(.s .z (.s (.s (.j [(.normal,[(21,.B)])] .z) .z) .z))) 39 (y0_ W.z81_ok (y0_ W.z4_ok (y0_ W.z43_ok (y0_ W.z5_ok y1_)))) Tryz.func121
theorem W.z133_ok:SpecOk Tryz.prog 7 174 W.z133:=
 sEeff (an:=(.s .z (.l [(2,.I .i64),(3,.I .i64)] [(.exit 0,[])] .z))) 28 y1_ Tryz.func174
theorem W.z32_ok:SpecOk Tryz.prog 7 122 W.z32:=
 sEeff (an:=(.s .z (.s .z (.s .z (.s .z (.s .z (.s (.s .z (.l [(5,.V),(8,.I .i64)] [(.exit 0,[(5,.V)])] (.s .z (.s (.j [(.normal,[(5,.V)])] (.s .z (.s (.s (.j [(.normal,[(44,.B)])] .z) .z) (.s .z (.s .z (.s .z (.l [(61,.I .i64)] [(.exit 2,[])] .z))))))) .z)))) .z))))))) 72 (y0_ W.z133_ok (y0_ W.z61_ok (y0_ W.z68_ok (y0_ W.z66_ok (y0_ W.z70_ok (y0_ W.z45_ok (y0_ W.z71_ok y1_))))))) Tryz.func122
theorem W.z106_ok:SpecOk Tryz.prog 7 72 W.z106:=
 sEeff (an:=(.s .z (.s (.s .z (.l [(10,.I .i64)] [(.exit 0,[]),(.ret,[(4,.B),(5,.V)])] .z)) .z))) 40 (y0_ W.z32_ok (y0_ W.z62_ok (y0_ W.z71_ok y1_))) Tryz.func72
theorem W.z18_ok:SpecOk Tryz.prog 7 123 W.z18:=
 sEpur (an:=.z) 8 y1_ Tryz.func123
theorem W.z53_ok:SpecOk Tryz.prog 7 125 W.z53:=
 sEeff (an:=.z) 14 (y0_ W.z54_ok y1_) Tryz.func125
theorem W.z135_ok:SpecOk Tryz.prog 7 207 W.z135:=ycg_ Tryz.slices_Sort_int ⟨Tryz.f207,Tryz.func207,by kernel_rfl,by kernel_rfl⟩
theorem W.z22_ok:SpecOk Tryz.prog 7 175 W.z22:=
 sEeff (an:=.z) 11 (y0_ W.z135_ok (y0_ W.z23_ok y1_)) Tryz.func175
theorem W.z27_ok:SpecOk Tryz.prog 7 176 W.z27:=
 sEeff (an:=(.s .z (.s .z (.s .z (.s .z (.s .z (.s (.s .z (.j [(.normal,[])] .z)) .z))))))) 64 (y0_ W.z24_ok (y0_ W.z28_ok (y0_ W.z26_ok y1_))) Tryz.func176
theorem W.z19_ok:SpecOk Tryz.prog 7 124 W.z19:=
 sEeff (an:=(.s .z (.s .z (.s .z (.s (.s .z (.j [(.normal,[(6,.I .i64)])] .z)) .z))))) 47 (y0_ W.z27_ok (y0_ W.z22_ok y1_)) Tryz.func124
theorem W.z52_ok:SpecOk Tryz.prog 7 126 W.z52:=
 sEeff (an:=(.s .z (.s (.s .z (.s .z (.j [(.normal,[]),(.ret,[(4,.B)])] (.s (.s (.j [(.normal,[]),(.exit 0,[]),(.exit 3,[]),(.ret,[(4,.B)])] .z) .z) .z)))) .z))) 24 (y0_ W.z54_ok y1_) Tryz.func126
theorem W.z110_ok:SpecOk Tryz.prog 7 73 W.z110:=
 sEeff (an:=(.s .z (.s (.l [] [(.exit 0,[]),(.ret,[(2,.B)])] .z) .z))) 56 (y0_ W.z62_ok (y0_ W.z52_ok (y0_ W.z71_ok (y0_ W.z19_ok (y0_ W.z53_ok (y0_ W.z18_ok y1_)))))) Tryz.func73
theorem W.z112_ok:SpecOk Tryz.prog 7 74 W.z112:=
 sEeff (an:=(.s .z (.s .z (.s (.s .z (.l [(14,.I .i64)] [(.exit 0,[])] .z)) .z)))) 29 (y0_ W.z71_ok (y0_ W.z72_ok y1_)) Tryz.func74
theorem W.sat_Engine_back_def:DefOk Tryz.prog 7 67 W.z107:=
 yfn_ (an:=(.s (.s .z (.l [(14,.I .i64)] [(.exit 0,[])] (.s .z (.s .z (.s (.j [(.normal,[])] (.s .z (.s .z (.s .z (.s (.s .z (.j [(.normal,[])] .z)) .z))))) .z))))) .z)) (calls:=(tab 109 W.z60 (tab 108 W.z20 (tab 107 W.z45 (tab 106 W.z69 y2d_))))) 47 mixed (y0_ W.z60_ok (y0_ W.z20_ok (y0_ W.z45_ok (y0_ W.z69_ok y1_)))) Tryz.func67 (by kernel_rfl) rfl (by decide) (fun x σ=>by kernel_rfl)
theorem W.z104_ok:SpecOk Tryz.prog 7 30 W.z104:=
 yc5_ (an:=(.s .z (.s .z (.s .z (.l [] [(.ret,[(5,.V)])] .z))))) (calls:=(tab 74 W.z112 (tab 73 W.z110 (tab 72 W.z106 (tab 71 W.z111 (tab 70 W.z109 (tab 69 W.z65 (tab 68 W.z67 (tab 67 W.z107 (tab 61 W.z128 y2d_)))))))))) 57 mixed (y0_ W.z112_ok (y0_ W.z110_ok (y0_ W.z106_ok (y0_ W.z111_ok (y0_ W.z109_ok (y0_ W.z65_ok (y0_ W.z67_ok (y0_ W.z107_ok (y0_ W.z128_ok y1_))))))))) (sg:=W.z107) (by kernel_rfl) W.sat_Engine_back_def Tryz.func30 rfl rfl (by kernel_rfl) (by decide) rfl rfl rfl (by decide) rfl rfl rfl rfl (fun x σ=>by kernel_rfl)
theorem W.z122_ok:SpecOk Tryz.prog 7 16 W.z122:=
 sEeff (an:=(.s .z (.s (.j [(.normal,[(2,.B)])] .z) .z))) 25 y1_ Tryz.func16
theorem W.z123_ok:SpecOk Tryz.prog 7 17 W.z123:=
 sEpur (an:=(.s .z (.s .z (.s (.s .z (.j [(.normal,[(5,.I .i64)])] .z)) .z)))) 15 y1_ Tryz.func17
theorem W.z121_ok:SpecOk Tryz.prog 7 29 W.z121:=
 sEpur (an:=.z) 19 (y0_ W.z123_ok y1_) Tryz.func29
theorem W.z119_ok:SpecOk Tryz.prog 7 26 W.z119:=
 sEeff (an:=(.s .z (.s .z (.s .z (.s .z (.s (.s .z (.l [(5,.V),(6,.V),(7,.I .i64)] [(.exit 0,[(5,.V),(6,.V)])] (.s .z (.s (.j [(.normal,[(5,.V),(6,.V)])] (.s (.s (.j [(.normal,[(31,.B)])] .z) (.j [(.normal,[(5,.V),(6,.V)])] .z)) .z)) .z)))) (.s (.s .z (.j [(.normal,[(5,.V)])] .z)) .z))))))) 55 (y0_ W.z121_ok (y0_ W.z123_ok y1_)) Tryz.func26
theorem W.z118_ok:SpecOk Tryz.prog 7 18 W.z118:=
 sEeff (an:=.z) 10 (y0_ W.z119_ok y1_) Tryz.func18
theorem W.z120_ok:SpecOk Tryz.prog 7 20 W.z120:=
 sEeff (an:=.z) 6 y1_ Tryz.func20
theorem W.z103_ok:SpecOk Tryz.prog 7 36 W.z103:=
 sEeff (an:=(.s .z (.s .z (.s (.s .z (.l [(3,.V),(11,.I .i64)] [(.exit 0,[(3,.V)])] .z)) .z)))) 26 (y0_ W.z125_ok y1_) Tryz.func36
theorem W.z56_ok:SpecOk Tryz.prog 7 185 W.z56:=
 sEeff (an:=.z) 10 y1_ Tryz.func185
theorem W.z55_ok:SpecOk Tryz.prog 7 139 W.z55:=
 sEeff (an:=(.s .z (.s .z (.s (.s .z (.l [(3,.I .i64),(12,.I .i64)] [(.exit 0,[(3,.I .i64)])] .z)) (.s .z (.s (.s .z (.l [(27,.I .i64)] [(.exit 2,[]),(.ret,[(2,.V)])] (.s .z (.s .z (.s (.s .z (.s .z (.l [(35,.I .i64)] [(.exit 4,[]),(.ret,[(2,.V)])] .z))) .z))))) .z)))))) 47 (y0_ W.z56_ok (y0_ W.z43_ok y1_)) Tryz.func139
theorem W.z85_ok:SpecOk Tryz.prog 7 142 W.z85:=
 sEeff (an:=(.s .z (.s .z (.s .z (.s .z (.s .z (.s (.s .z (.l [(45,.I .i64)] [(.exit 0,[])] .z)) (.s (.s .z (.j [(.normal,[])] .z)) .z)))))))) 84 (y0_ W.z44_ok (y0_ W.z93_ok y1_)) Tryz.func142
theorem W.z95_ok:SpecOk Tryz.prog 7 140 W.z95:=
 sEeff (an:=(.s .z (.s .z (.s (.s .z (.l [(16,.I .i64)] [(.exit 0,[]),(.ret,[(4,.V),(5,.V)])] .z)) .z)))) 27 (y0_ W.z85_ok (y0_ W.z6_ok y1_)) Tryz.func140
theorem W.z13_ok:SpecOk Tryz.prog 7 91 W.z13:=
 sEeff (an:=(.s .z (.s .z (.s .z (.s .z (.s (.s .z (.l [(9,.I .i64),(30,.I .i64)] [(.exit 0,[(9,.I .i64)])] (.s .z (.s .z (.s (.s .z (.s .z (.l [(9,.I .i64),(37,.I .i64)] [(.exit 2,[(9,.I .i64)])] .z))) .z))))) .z)))))) 57 (y0_ W.z95_ok (y0_ W.z45_ok (y0_ W.z55_ok (y0_ W.z41_ok y1_)))) Tryz.func91
theorem W.z130_ok:SpecOk Tryz.prog 7 210 W.z130:=
 sEpur (an:=(.s .z (.s .z (.s (.s .z (.l [(13,.I .i64)] [(.exit 0,[]),(.ret,[(4,.B)])] .z)) .z)))) 26 y1_ Tryz.func210
theorem W.z92_ok:SpecOk Tryz.prog 7 186 W.z92:=
 sEeff (an:=(.s .z (.s .z (.s .z (.s (.s .z (.j [(.normal,[(7,.V)])] .z)) (.s (.s .z (.l [(32,.I .i64)] [(.exit 0,[]),(.ret,[(4,.I .i64)])] (.s .z (.s .z (.s (.s .z (.s (.j [(.normal,[(53,.B)])] .z) .z)) .z))))) .z)))))) 56 (y0_ W.z130_ok (y0_ W.z44_ok y1_)) Tryz.func186
theorem W.z96_ok:SpecOk Tryz.prog 7 187 W.z96:=
 sEeff (an:=.z) 8 (y0_ W.z129_ok y1_) Tryz.func187
theorem W.z87_ok:SpecOk Tryz.prog 7 141 W.z87:=
 sEeff (an:=(.s .z (.s .z (.s .z (.s (.s .z (.l [(21,.I .i64)] [(.exit 0,[])] .z)) .z))))) 67 (y0_ W.z96_ok (y0_ W.z92_ok y1_)) Tryz.func141
theorem W.z14_ok:SpecOk Tryz.prog 7 92 W.z14:=
 sEeff (an:=(.s .z (.s (.s .z (.l [(11,.I .i64)] [(.exit 0,[]),(.ret,[(6,.V)])] (.s .z (.s .z (.s (.j [(.normal,[]),(.ret,[(6,.V)])] (.s .z (.s (.s (.j [(.normal,[(23,.B)])] .z) .z) (.s (.j [(.normal,[(39,.B)])] .z) .z)))) .z))))) .z))) 46 (y0_ W.z85_ok (y0_ W.z86_ok (y0_ W.z48_ok (y0_ W.z87_ok y1_)))) Tryz.func92
theorem W.z11_ok:SpecOk Tryz.prog 7 52 W.z11:=
 sEeff (an:=.z) 31 (y0_ W.z88_ok (y0_ W.z14_ok (y0_ W.z13_ok y1_))) Tryz.func52
theorem W.z117_ok:SpecOk Tryz.prog 7 51 W.z117:=
 sEeff (an:=(.s .z (.s .z (.s (.j [(.normal,[(0,.B)])] .z) .z)))) 14 (y0_ W.z11_ok y1_) Tryz.func51
theorem W.z12_ok:SpecOk Tryz.prog 7 53 W.z12:=
 sEeff (an:=(.s .z (.s .z (.s .z (.s .z (.s (.s .z (.l [(30,.I .i64)] [(.exit 0,[]),(.ret,[(4,.I .i64),(5,.V)])] .z)) .z)))))) 51 (y0_ W.z14_ok (y0_ W.z88_ok (y0_ W.z13_ok (y0_ W.z11_ok y1_)))) Tryz.func53
theorem W.z116_ok:SpecOk Tryz.prog 7 14 W.z116:=
 sEeff (an:=(.s .z (.s .z (.s .z (.s (.s (.j [(.normal,[(24,.B)])] .z) .z) (.s .z (.s .z (.s .z (.s (.s .z (.l [(8,.I .i64)] [(.exit 0,[])] .z)) (.s .z (.s .z (.s (.s .z (.s (.s (.j [(.normal,[(4,.B)])] .z) .z) .z)) (.s .z (.s .z (.s (.j [(.normal,[(4,.B)])] .z) .z))))))))))))))) 114 (y0_ W.z12_ok (y0_ W.z11_ok (y0_ W.z103_ok (y0_ W.z104_ok (y0_ W.z100_ok (y0_ W.z114_ok (y0_ W.z120_ok (y0_ W.z118_ok (y0_ W.z122_ok (y0_ W.z117_ok y1_)))))))))) Tryz.func14
end
end Go.Proofs.YtafbldhedkallaaGreatDoor.A
end
