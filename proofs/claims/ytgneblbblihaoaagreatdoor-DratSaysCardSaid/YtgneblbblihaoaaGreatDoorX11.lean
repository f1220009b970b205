/- Parts of the proof, one behind another. -/
import Derived.Test.YtgneblbblihaoaaGreatDoorTie
import Derived.Test.YtgneblbblihaoaaGreatDoorX6
import Derived.Test.YtgneblbblihaoaaGreatDoorX8
set_option linter.all false
/- The seat's own numbers. -/
namespace Go.Proofs.YtgneblbblihaoaaGreatDoor.A
open Go Go.ChangeShapes Go.WideShapes Go.ChangeAt Go.RowKit Go.Proofs.YtgneblbblihaoaaGreatDoor
theorem Tryz.own : ownKnob Tryz.prog.godebug = none := by kernel_rfl
theorem Tryz.laidOut : laidOutB Tryz.prog = true := by kernel_rfl
theorem Tryz.star : "*" ++ "errors.errorString" = "*errors.errorString" := by decide
theorem Tryz.row144 (u : TypeId) (h : Tryz.prog.typeName? 3 u = some "*errors.errorString") : u = 144 :=
  typeName_ptr_named (nm := "errors.errorString") (by rw [Tryz.star]; kernel_rfl) (by kernel_rfl) (by decide) u (by rw [Tryz.star]; exact h)
def Tryz.snt : Snt Tryz.prog where
  ti := 36
  tp := 144
  te := 162
  ts := 9
  ms := _
  f := _
  hi := Tryz.underlying36
  hrow := Tryz.row144
  hp := Tryz.underlying144
  he := Tryz.underlying162
  hft := rfl
  hfo := rfl
  hs := Tryz.underlying9
  hc := by kernel_rfl
  hcs := by kernel_rfl
theorem Tryz.rows : ((List.range 7).all fun g => (((begin Tryz.prog (fun _ _ => 0) default).world.heap[g]?).bind Obj.row?).isSome) = true := by kernel_rfl

def Tryz.cI : Codec Tryz.prog Int := Codec.int Tryz.underlying3 (by kernel_rfl) (of_decide_eq_true (by kernel_rfl))
def Tryz.cB : Codec Tryz.prog Bool := Codec.bool Tryz.underlying4 (by kernel_rfl) (of_decide_eq_true (by kernel_rfl))
def Tryz.cIs : Codec Tryz.prog (List Int) := Tryz.cI.slice (t := 22) Tryz.underlying22 (by kernel_rfl) (of_decide_eq_true (by kernel_rfl))
def Tryz.cIss : Codec Tryz.prog (List (List Int)) := Tryz.cIs.slice (t := 24) Tryz.underlying24 (by kernel_rfl) (of_decide_eq_true (by kernel_rfl))
section
variable {σ : Heap} (hn : ∀ l o, σ.get l = some o → l < σ.next)
include hn
theorem ints_of {xs : List Int} {us : List AVal} (h : Tryz.cIs.rel σ.get xs us) : ∃ x, us = [x] ∧ SlV .int σ xs x := by
  have h' : sliceRel 1 Tryz.cI.rel σ.get xs us := h
  obtain ⟨x, e, hx⟩ := slV_of Vw.int id rfl hn (fun a us h => h.1) h'
  exact ⟨x, e, by simpa using hx⟩
theorem intss_of {xs : List (List Int)} {us : List AVal} (h : Tryz.cIss.rel σ.get xs us) : ∃ x, us = [x] ∧ SlV (Vw.sl .int) σ xs x := by
  have h' : sliceRel 1 Tryz.cIs.rel σ.get xs us := h
  obtain ⟨x, e, hx⟩ := slV_of (Vw.sl .int) id rfl hn (fun a us h => ints_of hn h) h'
  exact ⟨x, e, by simpa using hx⟩
omit hn in
theorem ints_ok {xs : List Int} {us : List AVal} (h : Tryz.cIs.rel σ.get xs us) : xs.length ≤ 140737488351232 ∧ ∀ l ∈ xs, -9223372036854775808 ≤ l ∧ l ≤ 9223372036854775807 := by
  have h' : sliceRel 1 Tryz.cI.rel σ.get xs us := h
  refine ⟨sliceRel_len h', fun l hl => ?_⟩
  obtain ⟨u, hu⟩ := sliceRel_mem h' l hl
  exact hu.2
omit hn in
theorem intss_ok {xs : List (List Int)} {us : List AVal} (h : Tryz.cIss.rel σ.get xs us) : xs.length ≤ 140737488351232 ∧ ∀ c ∈ xs, c.length ≤ 140737488351232 ∧ ∀ l ∈ c, -9223372036854775808 ≤ l ∧ l ≤ 9223372036854775807 := by
  have h' : sliceRel 1 Tryz.cIs.rel σ.get xs us := h
  refine ⟨sliceRel_len h', fun l hl => ?_⟩
  obtain ⟨u, hu⟩ := sliceRel_mem h' l hl
  exact ints_ok hu
end
end Go.Proofs.YtgneblbblihaoaaGreatDoor.A

/- The seat's own numbers: formulas as0 arguments; the errors' variables. -/
namespace Go.Proofs.YtgneblbblihaoaaGreatDoor.A
open Go Go.RowKit
def Tryz.cCNF : Codec Tryz.prog (Int × List (List Int)) := Codec.struct (t := 26) (Fields.cons Tryz.cI (Fields.one Tryz.cIss)) Tryz.underlying26 (by kernel_rfl) (by rfl) (by decide) (of_decide_eq_true (by kernel_rfl))
def Tryz.cStep : Codec Tryz.prog (Bool × List Int) := Codec.struct (t := 50) (Fields.cons Tryz.cB (Fields.one Tryz.cIs)) Tryz.underlying50 (by kernel_rfl) (by rfl) (by decide) (of_decide_eq_true (by kernel_rfl))
def Tryz.cSteps : Codec Tryz.prog (List (Bool × List Int)) := Tryz.cStep.slice (t := 23) Tryz.underlying23 (by kernel_rfl) (of_decide_eq_true (by kernel_rfl))
section
open Go.ChangeShapes
variable {H : Type} {enc : TypeId × Value → H} {P : Program} {w : World} {base : Nat} {spare : Nat → Bool} {held : Bool}
theorem trodAll_five {t0 t1 t2 t3 t4 : TypeId} {args : Array Value} {ds : List (DataW H)} {ps : List MemPlace} (h : DataW.TrodAll enc P w base spare held [t0, t1, t2, t3, t4] args.toList ds ps) :
    ∃ v0 v1 v2 v3 v4 d0 d1 d2 d3 d4, args = #[v0, v1, v2, v3, v4] ∧ ds = [d0, d1, d2, d3, d4] := by
  obtain ⟨v0, vs0, d0, ds0, p0, q0, ha, rfl, rfl, h0, h⟩ := trodAll_cons h
  obtain ⟨v1, vs1, d1, ds1, p1, q1, rfl, rfl, rfl, h1, h⟩ := trodAll_cons h
  obtain ⟨v2, vs2, d2, ds2, p2, q2, rfl, rfl, rfl, h2, h⟩ := trodAll_cons h
  obtain ⟨v3, vs3, d3, ds3, p3, q3, rfl, rfl, rfl, h3, h⟩ := trodAll_cons h
  obtain ⟨v4, vs4, d4, ds4, p4, q4, rfl, rfl, rfl, h4, h⟩ := trodAll_cons h
  obtain ⟨rfl, rfl, rfl⟩ := trodAll_nil h
  exact ⟨v0, v1, v2, v3, v4, d0, d1, d2, d3, d4, by cases args; simp_all, rfl⟩
end
section
variable {σ : Heap} (hn : ∀ l o, σ.get l = some o → l < σ.next)
include hn
theorem cnf_of {a : Int × List (List Int)} {us : List AVal} (h : Tryz.cCNF.rel σ.get a us) : ∃ vc, us = [.int .i64 a.1, vc] ∧ SlV (Vw.sl .int) σ a.2 vc ∧ a.2.length ≤ 140737488351232 ∧ ∀ c ∈ a.2, c.length ≤ 140737488351232 ∧ ∀ l ∈ c, -9223372036854775808 ≤ l ∧ l ≤ 9223372036854775807 := by
  obtain ⟨h1, h2⟩ := (h : Tryz.cI.rel _ a.1 (us.take 1) ∧ Tryz.cIss.rel _ a.2 (us.drop 1))
  have h1' : us.take 1 = [.int .i64 a.1] := h1.1
  obtain ⟨vc, e4, w4⟩ := intss_of hn h2
  have e4 : us.drop 1 = [vc] := e4
  refine ⟨vc, ?_, w4, (intss_ok h2).1, (intss_ok h2).2⟩
  rw [← List.take_append_drop 1 us, h1', e4]; rfl
theorem steps_of {xs : List (Bool × List Int)} {us : List AVal} (h : Tryz.cSteps.rel σ.get xs us) : ∃ x, us = [x] ∧ SlV (Vw.pair .bool (Vw.sl .int)) σ xs x := by
  have h' : sliceRel 2 Tryz.cStep.rel σ.get xs us := h
  obtain ⟨x, e, hx⟩ := slV_of (Vw.pair .bool (Vw.sl .int)) id rfl hn (fun a us h => by
    obtain ⟨h1, h2⟩ := (h : Tryz.cB.rel _ a.1 (us.take 1) ∧ Tryz.cIs.rel _ a.2 (us.drop 1))
    obtain ⟨x, e, hx⟩ := ints_of hn h2
    exact ⟨us.take 1, us.drop 1, (List.take_append_drop 1 us).symm, h1, x, e, hx⟩) h'
  exact ⟨x, e, by simpa using hx⟩
theorem steps_ok {xs : List (Bool × List Int)} {us : List AVal} (h : Tryz.cSteps.rel σ.get xs us) : xs.length ≤ 140737488351232 ∧ ∀ b ∈ xs, b.2.length ≤ 140737488351232 := by
  have h' : sliceRel 2 Tryz.cStep.rel σ.get xs us := h
  refine ⟨sliceRel_len h', fun b hb => ?_⟩
  obtain ⟨u, hu⟩ := sliceRel_mem h' b hb
  obtain ⟨h1, h2⟩ := (hu : Tryz.cB.rel _ b.1 (u.take 1) ∧ Tryz.cIs.rel _ b.2 (u.drop 1))
  exact (ints_ok h2).1
/-- The errors' variables, as0 a law lays them. -/
theorem gls_of (E : List Er) (gl : List (Nat × List UInt8)) (hE : ∀ e ∈ E, ∃ k, heapG 7 144 gl e.g = some (.cells .rz 1 [.ifc tErr (.ptr (7 + k) 0)]) ∧ gl[k]? = some (e.g, e.s) ∧ e.g < 7) (hg : ∀ l, l < 7 + gl.length → σ.get l = heapG 7 144 gl l) : GlS E σ := fun e he => by
  obtain ⟨k, h1, h2, h3⟩ := hE e he
  have hk := (List.getElem?_eq_some_iff.1 h2).1
  have a1 := hg e.g (by omega)
  have a2 := hg (7 + k) (by omega)
  rw [h1] at a1
  have h4 : heapG 7 144 gl (7 + k) = some (.cells .rz 1 [.str ⟨e.s.toArray⟩]) := by
    unfold heapG
    rw [if_neg (by omega), Nat.add_sub_cancel_left, h2]; rfl
  rw [h4] at a2
  exact ⟨_, hn _ _ a1, a1, 7 + k, rfl, hn _ _ a2, a2⟩
end
end Go.Proofs.YtgneblbblihaoaaGreatDoor.A
