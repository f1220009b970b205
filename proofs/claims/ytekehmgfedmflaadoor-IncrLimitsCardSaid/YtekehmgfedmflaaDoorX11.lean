/- Parts of the proof, one behind another. -/
import Derived.Test.YtekehmgfedmflaaDoorTie
import Derived.Test.YtekehmgfedmflaaDoorX7
import Derived.Test.YtekehmgfedmflaaDoorX8
import Derived.Test.YtekehmgfedmflaaDoorX9
set_option linter.all false
/- The seat's own numbers. -/
namespace Go.Proofs.YtekehmgfedmflaaDoor.A
open Go Go.ChangeShapes Go.WideShapes Go.ChangeAt Go.RowKit Go.Proofs.YtekehmgfedmflaaDoor
theorem Tryd.own : ownKnob Tryd.prog.godebug = none := by kernel_rfl
theorem Tryd.laidOut : laidOutB Tryd.prog = true := by kernel_rfl
theorem Tryd.star : "*" ++ "errors.errorString" = "*errors.errorString" := by decide
theorem Tryd.row140 (u : TypeId) (h : Tryd.prog.typeName? 3 u = some "*errors.errorString") : u = 140 :=
  typeName_ptr_named (nm := "errors.errorString") (by rw [Tryd.star]; kernel_rfl) (by kernel_rfl) (by decide) u (by rw [Tryd.star]; exact h)
def Tryd.snt : Snt Tryd.prog where
  ti := 31
  tp := 140
  te := 160
  ts := 9
  ms := _
  f := _
  hi := Tryd.underlying31
  hrow := Tryd.row140
  hp := Tryd.underlying140
  he := Tryd.underlying160
  hft := rfl
  hfo := rfl
  hs := Tryd.underlying9
  hc := by kernel_rfl
  hcs := by kernel_rfl
theorem Tryd.rows : ((List.range 7).all fun g => (((begin Tryd.prog (fun _ _ => 0) default).world.heap[g]?).bind Obj.row?).isSome) = true := by kernel_rfl

def Tryd.cI : Codec Tryd.prog Int := Codec.int Tryd.underlying3 (by kernel_rfl) (of_decide_eq_true (by kernel_rfl))
section
variable {σ : Heap} (hn : ∀ l o, σ.get l = some o → l < σ.next)
include hn
end
end Go.Proofs.YtekehmgfedmflaaDoor.A

/- The seat's own numbers: formulas as0 arguments; the errors' variables. -/
namespace Go.Proofs.YtekehmgfedmflaaDoor.A
open Go Go.RowKit
section
open Go.ChangeShapes
variable {H : Type} {enc : TypeId × Value → H} {P : Program} {w : World} {base : Nat} {spare : Nat → Bool} {held : Bool}
end
section
variable {σ : Heap} (hn : ∀ l o, σ.get l = some o → l < σ.next)
include hn
/-- The errors' variables, as0 a law lays them. -/
theorem gls_of (E : List Er) (gl : List (Nat × List UInt8)) (hE : ∀ e ∈ E, ∃ k, heapG 7 140 gl e.g = some (.cells .rz 1 [.ifc tErr (.ptr (7 + k) 0)]) ∧ gl[k]? = some (e.g, e.s) ∧ e.g < 7) (hg : ∀ l, l < 7 + gl.length → σ.get l = heapG 7 140 gl l) : GlS E σ := fun e he => by
  obtain ⟨k, h1, h2, h3⟩ := hE e he
  have hk := (List.getElem?_eq_some_iff.1 h2).1
  have a1 := hg e.g (by omega)
  have a2 := hg (7 + k) (by omega)
  rw [h1] at a1
  have h4 : heapG 7 140 gl (7 + k) = some (.cells .rz 1 [.str ⟨e.s.toArray⟩]) := by
    unfold heapG
    rw [if_neg (by omega), Nat.add_sub_cancel_left, h2]; rfl
  rw [h4] at a2
  exact ⟨_, hn _ _ a1, a1, 7 + k, rfl, hn _ _ a2, a2⟩
end
end Go.Proofs.YtekehmgfedmflaaDoor.A
