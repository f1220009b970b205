/- Parts of the proof, one behind another. -/
import Derived.Test.YtekehmgfedmflaaGreatDoorTie
import Derived.Test.YtekehmgfedmflaaGreatDoorX7
import Derived.Test.YtekehmgfedmflaaGreatDoorX9
set_option linter.all false
noncomputable section
namespace Go.Proofs.YtekehmgfedmflaaGreatDoor.A
section
open Go Go.ChangeShapes Go.WideShapes Go.ChangeAt Go.RowKit Go.Proofs.YtekehmgfedmflaaGreatDoor
theorem Tryz.own:ownKnob Tryz.prog.godebug=none:=by kernel_rfl
theorem Tryz.laidOut:laidOutB Tryz.prog=true:=by kernel_rfl
theorem Tryz.star : "*" ++ "errors.errorString" = "*errors.errorString":=by decide
theorem Tryz.row270(u:TypeId)(h:Tryz.prog.typeName? 3 u=some "*errors.errorString"):u=270:=
 typeName_ptr_named (nm := "errors.errorString") (by rw[Tryz.star];kernel_rfl) (by kernel_rfl) (by decide) u (by rw[Tryz.star];exact h)
def Tryz.snt:Snt Tryz.prog where
 ti:=42
 tp:=270
 te:=286
 ts:=9
 ms:=_
 f:=_
 hi:=Tryz.underlying42
 hrow:=Tryz.row270
 hp:=Tryz.underlying270
 he:=Tryz.underlying286
 hft:=rfl
 hfo:=rfl
 hs:=Tryz.underlying9
 hc:=by kernel_rfl
 hcs:=by kernel_rfl
theorem Tryz.rows:((List.range 7).all fun g=>(((begin Tryz.prog (fun _ _=>0) default).world.heap[g]?).bind Obj.row?).isSome)=true:=by kernel_rfl
def Tryz.cI:Codec Tryz.prog Int:=Codec.int Tryz.underlying3 (by kernel_rfl) (of_decide_eq_true (by kernel_rfl))
def Tryz.cIs:Codec Tryz.prog (List Int):=Tryz.cI.slice (t:=22) Tryz.underlying22 (by kernel_rfl) (of_decide_eq_true (by kernel_rfl))
section
variable{σ:Heap}(hn:∀l o,σ.get l=some o->l<σ.next)
include hn
theorem yj6_{xs:List Int}{us:List AVal}(h:Tryz.cIs.rel σ.get xs us):∃x,us=[x]/\SlV .int σ xs x:=by
 have h':y36_ 1 Tryz.cI.rel σ.get xs us:=h;obtain⟨x,e,hx⟩:=yjd_ Vw.int id rfl hn (fun a us h=>h.1) h';exact⟨x,e,by simpa using hx⟩
omit hn in
theorem yic_{xs:List Int}{us:List AVal}(h:Tryz.cIs.rel σ.get xs us):xs.length<=140737488351232/\∀l∈xs,-9223372036854775808<=l/\l<=9223372036854775807:=by
 have h':y36_ 1 Tryz.cI.rel σ.get xs us:=h;refine⟨ybn_ h',fun l hl=>?_⟩;obtain⟨u,hu⟩:=ybq_ h' l hl;exact hu.2
end
end
section
open Go Go.RowKit
section
open Go.ChangeShapes
variable{H:Type}{enc:TypeId×Value->H}{P:Program}{w:World}{base:Nat}{spare:Nat->Bool}{held:Bool}
end
section
variable{σ:Heap}(hn:∀l o,σ.get l=some o->l<σ.next)
include hn
theorem yjx_(E:List Er)(gl:List (Nat×List UInt8))(hE:∀e∈E,∃k,heapG 7 270 gl e.g=some (.cells .rz 1 [.ifc tErr (.ptr (7+k) 0)])/\gl[k]?=some (e.g,e.s)/\e.g<7)(hg:∀l,l<7+gl.length->σ.get l=heapG 7 270 gl l):GlS E σ:=fun e he=>by
 obtain⟨k,h1,h2,h3⟩:=hE e he;have hk:=(List.getElem?_eq_some_iff.1 h2).1;have a1:=hg e.g (by omega);have a2:=hg (7+k) (by omega);rw[h1]at a1;have h4:heapG 7 270 gl (7+k)=some (.cells .rz 1 [.str ⟨e.s.toArray⟩]):=by
  unfold heapG;rw[if_neg (by omega),Nat.add_sub_cancel_left,h2];rfl
 rw[h4]at a2;exact⟨_,hn _ _ a1,a1,7+k,rfl,hn _ _ a2,a2⟩
end
end
end Go.Proofs.YtekehmgfedmflaaGreatDoor.A
end
