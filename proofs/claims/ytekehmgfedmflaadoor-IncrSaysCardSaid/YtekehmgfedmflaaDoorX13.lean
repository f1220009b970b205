/- Parts of the proof, one behind another. -/
import Derived.Test.YtekehmgfedmflaaDoorTie
import Derived.Test.YtekehmgfedmflaaDoorX7
import Derived.Test.YtekehmgfedmflaaDoorX9
import Derived.Test.YtekehmgfedmflaaDoorX10
set_option linter.all false
/- The seat's own numbers. -/
namespace Go.Proofs.YtekehmgfedmflaaDoor.A
open Go Go.ChangeShapes Go.WideShapes Go.ChangeAt Go.RowKit Go.Proofs.YtekehmgfedmflaaDoor
theorem Tryd.own : ownKnob Tryd.prog.godebug = none := by kernel_rfl
theorem Tryd.laidOut : laidOutB Tryd.prog = true := by kernel_rfl
theorem Tryd.star : "*" ++ "errors.errorString" = "*errors.errorString" := by decide
theorem Tryd.row140 (u : TypeId) (h : Tryd.prog.typeName? 3 u = some "*errors.errorString") : u = 140 :=
  typeName_ptr_named (nm := "errors.errorString") (by rw [Tryd.star]; kernel_rfl) (by kernel_rfl) (by decide) u (by rw [Tryd.star]; exact h)
def Tryd.snt : Snt Tryd.prog where
  ti := 31
  tp := 140
  te := 160
  ts := 9
  ms := _
  f := _
  hi := Tryd.underlying31
  hrow := Tryd.row140
  hp := Tryd.underlying140
  he := Tryd.underlying160
  hft := rfl
  hfo := rfl
  hs := Tryd.underlying9
  hc := by kernel_rfl
  hcs := by kernel_rfl
theorem Tryd.rows : ((List.range 7).all fun g => (((begin Tryd.prog (fun _ _ => 0) default).world.heap[g]?).bind Obj.row?).isSome) = true := by kernel_rfl

def Tryd.cI : Codec Tryd.prog Int := Codec.int Tryd.underlying3 (by kernel_rfl) (of_decide_eq_true (by kernel_rfl))
def Tryd.cIs : Codec Tryd.prog (List Int) := Tryd.cI.slice (t := 26) Tryd.underlying26 (by kernel_rfl) (of_decide_eq_true (by kernel_rfl))
section
variable {σ : Heap} (hn : ∀ l o, σ.get l = some o → l < σ.next)
include hn
theorem ints_of {xs : List Int} {us : List AVal} (h : Tryd.cIs.rel σ.get xs us) : ∃ x, us = [x] ∧ SlV .int σ xs x := by
  have h' : sliceRel 1 Tryd.cI.rel σ.get xs us := h
  obtain ⟨x, e, hx⟩ := slV_of Vw.int id rfl hn (fun a us h => h.1) h'
  exact ⟨x, e, by simpa using hx⟩
omit hn in
theorem ints_ok {xs : List Int} {us : List AVal} (h : Tryd.cIs.rel σ.get xs us) : xs.length ≤ 140737488351232 ∧ ∀ l ∈ xs, -9223372036854775808 ≤ l ∧ l ≤ 9223372036854775807 := by
  have h' : sliceRel 1 Tryd.cI.rel σ.get xs us := h
  refine ⟨sliceRel_len h', fun l hl => ?_⟩
  obtain ⟨u, hu⟩ := sliceRel_mem h' l hl
  exact hu.2
end
end Go.Proofs.YtekehmgfedmflaaDoor.A

/- The seat's own numbers: formulas as0 arguments; the errors' variables. -/
namespace Go.Proofs.YtekehmgfedmflaaDoor.A
open Go Go.RowKit
section
open Go.ChangeShapes
variable {H : Type} {enc : TypeId × Value → H} {P : Program} {w : World} {base : Nat} {spare : Nat → Bool} {held : Bool}
theorem trodAll_five {t0 t1 t2 t3 t4 : TypeId} {args : Array Value} {ds : List (DataW H)} {ps : List MemPlace} (h : DataW.TrodAll enc P w base spare held [t0, t1, t2, t3, t4] args.toList ds ps) :
    ∃ v0 v1 v2 v3 v4 d0 d1 d2 d3 d4, args = #[v0, v1, v2, v3, v4] ∧ ds = [d0, d1, d2, d3, d4] := by
  obtain ⟨v0, vs0, d0, ds0, p0, q0, ha, rfl, rfl, h0, h⟩ := trodAll_cons h
  obtain ⟨v1, vs1, d1, ds1, p1, q1, rfl, rfl, rfl, h1, h⟩ := trodAll_cons h
  obtain ⟨v2, vs2, d2, ds2, p2, q2, rfl, rfl, rfl, h2, h⟩ := trodAll_cons h
  obtain ⟨v3, vs3, d3, ds3, p3, q3, rfl, rfl, rfl, h3, h⟩ := trodAll_cons h
  obtain ⟨v4, vs4, d4, ds4, p4, q4, rfl, rfl, rfl, h4, h⟩ := trodAll_cons h
  obtain ⟨rfl, rfl, rfl⟩ := trodAll_nil h
  exact ⟨v0, v1, v2, v3, v4, d0, d1, d2, d3, d4, by cases args; simp_all, rfl⟩
theorem trodAll_six {t0 t1 t2 t3 t4 t5 : TypeId} {args : Array Value} {ds : List (DataW H)} {ps : List MemPlace} (h : DataW.TrodAll enc P w base spare held [t0, t1, t2, t3, t4, t5] args.toList ds ps) :
    ∃ v0 v1 v2 v3 v4 v5 d0 d1 d2 d3 d4 d5, args = #[v0, v1, v2, v3, v4, v5] ∧ ds = [d0, d1, d2, d3, d4, d5] := by
  obtain ⟨v0, vs0, d0, ds0, p0, q0, ha, rfl, rfl, h0, h⟩ := trodAll_cons h
  obtain ⟨v1, v2, v3, v4, v5, d1, d2, d3, d4, d5, e1, e2⟩ := trodAll_five (args := vs0.toArray) (by simpa using h)
  have e1 : vs0 = [v1, v2, v3, v4, v5] := by simpa using congrArg Array.toList e1
  subst e1 e2
  exact ⟨v0, v1, v2, v3, v4, v5, d0, d1, d2, d3, d4, d5, by cases args; simp_all, rfl⟩
end
section
variable {σ : Heap} (hn : ∀ l o, σ.get l = some o → l < σ.next)
include hn
/-- The errors' variables, as0 a law lays them. -/
theorem gls_of (E : List Er) (gl : List (Nat × List UInt8)) (hE : ∀ e ∈ E, ∃ k, heapG 7 140 gl e.g = some (.cells .rz 1 [.ifc tErr (.ptr (7 + k) 0)]) ∧ gl[k]? = some (e.g, e.s) ∧ e.g < 7) (hg : ∀ l, l < 7 + gl.length → σ.get l = heapG 7 140 gl l) : GlS E σ := fun e he => by
  obtain ⟨k, h1, h2, h3⟩ := hE e he
  have hk := (List.getElem?_eq_some_iff.1 h2).1
  have a1 := hg e.g (by omega)
  have a2 := hg (7 + k) (by omega)
  rw [h1] at a1
  have h4 : heapG 7 140 gl (7 + k) = some (.cells .rz 1 [.str ⟨e.s.toArray⟩]) := by
    unfold heapG
    rw [if_neg (by omega), Nat.add_sub_cancel_left, h2]; rfl
  rw [h4] at a2
  exact ⟨_, hn _ _ a1, a1, 7 + k, rfl, hn _ _ a2, a2⟩
end
end Go.Proofs.YtekehmgfedmflaaDoor.A

/- Scripts as0 arguments. -/
namespace Go.Proofs.YtekehmgfedmflaaDoor.A
open Go Go.RowKit
def Tryd.cScript : Codec Tryd.prog (List Int × List Int × List Int × List Int × Int × Int) := Codec.struct (t := 28) (Fields.cons Tryd.cIs (Fields.cons Tryd.cIs (Fields.cons Tryd.cIs (Fields.cons Tryd.cIs (Fields.cons Tryd.cI (Fields.one Tryd.cI)))))) Tryd.underlying28 (by kernel_rfl) (by rfl) (by decide) (of_decide_eq_true (by kernel_rfl))
section
variable {σ : Heap} (hn : ∀ l o, σ.get l = some o → l < σ.next)
include hn
theorem script_of {a : List Int × List Int × List Int × List Int × Int × Int} {us : List AVal} (h : Tryd.cScript.rel σ.get a us) : ScV σ (.agg us) ((a.1, a.2.1, a.2.2.1, a.2.2.2.1), a.2.2.2.2.1, a.2.2.2.2.2) := by
  have hl : us.length = 6 := Tryd.cScript.len _ _ _ h
  match us, hl with
  | [u0, u1, u2, u3, u4, u5], _ =>
    obtain ⟨h0, h1, h2, h3, h4, h5⟩ := (h : Tryd.cIs.rel σ.get a.1 [u0] ∧ Tryd.cIs.rel σ.get a.2.1 [u1] ∧ Tryd.cIs.rel σ.get a.2.2.1 [u2] ∧ Tryd.cIs.rel σ.get a.2.2.2.1 [u3] ∧ Tryd.cI.rel σ.get a.2.2.2.2.1 [u4] ∧ Tryd.cI.rel σ.get a.2.2.2.2.2 [u5])
    obtain ⟨x0, e0, w0⟩ := ints_of hn h0
    obtain ⟨x1, e1, w1⟩ := ints_of hn h1
    obtain ⟨x2, e2, w2⟩ := ints_of hn h2
    obtain ⟨x3, e3, w3⟩ := ints_of hn h3
    have e4 : [u4] = [.int .i64 a.2.2.2.2.1] := h4.1
    have e5 : [u5] = [.int .i64 a.2.2.2.2.2] := h5.1
    cases e0; cases e1; cases e2; cases e3; cases e4; cases e5
    exact ⟨_, _, _, _, rfl, w0, w1, w2, w3⟩
end
end Go.Proofs.YtekehmgfedmflaaDoor.A
