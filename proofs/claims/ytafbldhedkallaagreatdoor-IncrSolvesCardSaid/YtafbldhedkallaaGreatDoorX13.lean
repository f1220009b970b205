/- Parts of the proof, one behind another. -/
import Derived.Test.YtafbldhedkallaaGreatDoorTie
import Derived.Test.YtafbldhedkallaaGreatDoorX7
import Derived.Test.YtafbldhedkallaaGreatDoorX9
import Derived.Test.YtafbldhedkallaaGreatDoorX11
set_option linter.all false
noncomputable section
namespace Go.Proofs.YtafbldhedkallaaGreatDoor.A
section
open Go Go.ChangeShapes Go.WideShapes Go.ChangeAt Go.RowKit Go.Proofs.YtafbldhedkallaaGreatDoor
theorem Tryz.own:ownKnob Tryz.prog.godebug=none:=by kernel_rfl
theorem Tryz.laidOut:laidOutB Tryz.prog=true:=by kernel_rfl
theorem Tryz.star : "*" ++ "errors.errorString" = "*errors.errorString":=by decide
theorem Tryz.row247(u:TypeId)(h:Tryz.prog.typeName? 3 u=some "*errors.errorString"):u=247:=
 typeName_ptr_named (nm := "errors.errorString") (by rw[Tryz.star];kernel_rfl) (by kernel_rfl) (by decide) u (by rw[Tryz.star];exact h)
def Tryz.snt:Snt Tryz.prog where
 ti:=36
 tp:=247
 te:=263
 ts:=9
 ms:=_
 f:=_
 hi:=Tryz.underlying36
 hrow:=Tryz.row247
 hp:=Tryz.underlying247
 he:=Tryz.underlying263
 hft:=rfl
 hfo:=rfl
 hs:=Tryz.underlying9
 hc:=by kernel_rfl
 hcs:=by kernel_rfl
theorem Tryz.rows:((List.range 7).all fun g=>(((begin Tryz.prog (fun _ _=>0) default).world.heap[g]?).bind Obj.row?).isSome)=true:=by kernel_rfl
def Tryz.cI:Codec Tryz.prog Int:=Codec.int Tryz.underlying3 (by kernel_rfl) (of_decide_eq_true (by kernel_rfl))
def Tryz.cIs:Codec Tryz.prog (List Int):=Tryz.cI.slice (t:=22) Tryz.underlying22 (by kernel_rfl) (of_decide_eq_true (by kernel_rfl))
def Tryz.cIss:Codec Tryz.prog (List (List Int)):=Tryz.cIs.slice (t:=28) Tryz.underlying28 (by kernel_rfl) (of_decide_eq_true (by kernel_rfl))
section
variable{σ:Heap}(hn:∀l o,σ.get l=some o->l<σ.next)
include hn
theorem y43_{xs:List Int}{us:List AVal}(h:Tryz.cIs.rel σ.get xs us):∃x,us=[x]/\SlV .int σ xs x:=by
 have h':y1v_ 1 Tryz.cI.rel σ.get xs us:=h;obtain⟨x,e,hx⟩:=yg4_ Vw.int id rfl hn (fun a us h=>h.1) h';exact⟨x,e,by simpa using hx⟩
theorem ybt_{xs:List (List Int)}{us:List AVal}(h:Tryz.cIss.rel σ.get xs us):∃x,us=[x]/\SlV (Vw.sl .int) σ xs x:=by
 have h':y1v_ 1 Tryz.cIs.rel σ.get xs us:=h;obtain⟨x,e,hx⟩:=yg4_ (Vw.sl .int) id rfl hn (fun a us h=>y43_ hn h) h';exact⟨x,e,by simpa using hx⟩
omit hn in
theorem yda_{xs:List Int}{us:List AVal}(h:Tryz.cIs.rel σ.get xs us):xs.length<=140737488351232/\∀l∈xs,-9223372036854775808<=l/\l<=9223372036854775807:=by
 have h':y1v_ 1 Tryz.cI.rel σ.get xs us:=h;refine⟨y6l_ h',fun l hl=>?_⟩;obtain⟨u,hu⟩:=y6a_ h' l hl;exact hu.2
omit hn in
theorem ybu_{xs:List (List Int)}{us:List AVal}(h:Tryz.cIss.rel σ.get xs us):xs.length<=140737488351232/\∀c∈xs,c.length<=140737488351232/\∀l∈c,-9223372036854775808<=l/\l<=9223372036854775807:=by
 have h':y1v_ 1 Tryz.cIs.rel σ.get xs us:=h;refine⟨y6l_ h',fun l hl=>?_⟩;obtain⟨u,hu⟩:=y6a_ h' l hl;exact yda_ hu
end
end
section
open Go Go.RowKit
section
open Go.ChangeShapes
variable{H:Type}{enc:TypeId×Value->H}{P:Program}{w:World}{base:Nat}{spare:Nat->Bool}{held:Bool}
end
section
variable{σ:Heap}(hn:∀l o,σ.get l=some o->l<σ.next)
include hn
theorem yjn_(E:List Er)(gl:List (Nat×List UInt8))(hE:∀e∈E,∃k,heapG 7 247 gl e.g=some (.cells .rz 1 [.ifc tErr (.ptr (7+k) 0)])/\gl[k]?=some (e.g,e.s)/\e.g<7)(hg:∀l,l<7+gl.length->σ.get l=heapG 7 247 gl l):GlS E σ:=fun e he=>by
 obtain⟨k,h1,h2,h3⟩:=hE e he;have hk:=(List.getElem?_eq_some_iff.1 h2).1;have a1:=hg e.g (by omega);have a2:=hg (7+k) (by omega);rw[h1]at a1;have h4:heapG 7 247 gl (7+k)=some (.cells .rz 1 [.str ⟨e.s.toArray⟩]):=by
  unfold heapG;rw[if_neg (by omega),Nat.add_sub_cancel_left,h2];rfl
 rw[h4]at a2;exact⟨_,hn _ _ a1,a1,7+k,rfl,hn _ _ a2,a2⟩
end
end
section
open Go Go.RowKit
def Tryz.cScript:Codec Tryz.prog (List Int×List Int×List Int×List Int×Int×Int):=Codec.struct (t:=24) (Fields.cons Tryz.cIs (Fields.cons Tryz.cIs (Fields.cons Tryz.cIs (Fields.cons Tryz.cIs (Fields.cons Tryz.cI (Fields.one Tryz.cI)))))) Tryz.underlying24 (by kernel_rfl) (by rfl) (by decide) (of_decide_eq_true (by kernel_rfl))
section
variable{σ:Heap}(hn:∀l o,σ.get l=some o->l<σ.next)
include hn
theorem yfu_{a:List Int×List Int×List Int×List Int×Int×Int}{us:List AVal}(h:Tryz.cScript.rel σ.get a us):ScV σ (.agg us) ((a.1,a.2.1,a.2.2.1,a.2.2.2.1),a.2.2.2.2.1,a.2.2.2.2.2):=by
 have hl:us.length=6:=Tryz.cScript.len _ _ _ h
 match us,hl with
 |[u0,u1,u2,u3,u4,u5],_=>
  obtain⟨h0,h1,h2,h3,h4,h5⟩:=(h:Tryz.cIs.rel σ.get a.1 [u0]/\Tryz.cIs.rel σ.get a.2.1 [u1]/\Tryz.cIs.rel σ.get a.2.2.1 [u2]/\Tryz.cIs.rel σ.get a.2.2.2.1 [u3]/\Tryz.cI.rel σ.get a.2.2.2.2.1 [u4]/\Tryz.cI.rel σ.get a.2.2.2.2.2 [u5]);obtain⟨x0,e0,w0⟩:=y43_ hn h0;obtain⟨x1,e1,w1⟩:=y43_ hn h1;obtain⟨x2,e2,w2⟩:=y43_ hn h2;obtain⟨x3,e3,w3⟩:=y43_ hn h3;have e4:[u4]=[.int .i64 a.2.2.2.2.1]:=h4.1;have e5:[u5]=[.int .i64 a.2.2.2.2.2]:=h5.1;cases e0;cases e1;cases e2;cases e3;cases e4;cases e5;exact⟨_,_,_,_,rfl,w0,w1,w2,w3⟩
end
end
end Go.Proofs.YtafbldhedkallaaGreatDoor.A
end
