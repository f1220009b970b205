/- Parts of the proof, one behind another. -/
import Derived.Test.YtgneblbblihaoaaDoorTie
import Derived.Test.YtgneblbblihaoaaDoorX5
import Derived.Test.YtgneblbblihaoaaDoorX7
set_option linter.all false
/- The seat's own numbers. -/
namespace Go.Proofs.YtgneblbblihaoaaDoor.A
open Go Go.ChangeShapes Go.WideShapes Go.ChangeAt Go.RowKit Go.Proofs.YtgneblbblihaoaaDoor

theorem Tryd.own : ownKnob Tryd.prog.godebug = none := by kernel_rfl
theorem Tryd.laidOut : laidOutB Tryd.prog = true := by kernel_rfl
theorem Tryd.star : "*" ++ "errors.errorString" = "*errors.errorString" := by decide
theorem Tryd.row224 (u : TypeId) (h : Tryd.prog.typeName? 3 u = some "*errors.errorString") : u = 224 :=
  typeName_ptr_named (nm := "errors.errorString") (by rw [Tryd.star]; kernel_rfl) (by kernel_rfl) (by decide) u (by rw [Tryd.star]; exact h)
def Tryd.snt : Snt Tryd.prog where
  ti := 34
  tp := 224
  te := 242
  ts := 9
  ms := _
  f := _
  hi := Tryd.underlying34
  hrow := Tryd.row224
  hp := Tryd.underlying224
  he := Tryd.underlying242
  hft := rfl
  hfo := rfl
  hs := Tryd.underlying9
  hc := by kernel_rfl
  hcs := by kernel_rfl
theorem Tryd.rows : ((List.range 7).all fun g => (((begin Tryd.prog (fun _ _ => 0) default).world.heap[g]?).bind Obj.row?).isSome) = true := by kernel_rfl

def Tryd.cI : Codec Tryd.prog Int := Codec.int Tryd.underlying3 (by kernel_rfl) (of_decide_eq_true (by kernel_rfl))
def Tryd.cB : Codec Tryd.prog Bool := Codec.bool Tryd.underlying4 (by kernel_rfl) (of_decide_eq_true (by kernel_rfl))
def Tryd.cIs : Codec Tryd.prog (List Int) := Tryd.cI.slice (t := 30) Tryd.underlying30 (by kernel_rfl) (of_decide_eq_true (by kernel_rfl))
def Tryd.cIss : Codec Tryd.prog (List (List Int)) := Tryd.cIs.slice (t := 23) Tryd.underlying23 (by kernel_rfl) (of_decide_eq_true (by kernel_rfl))
def Tryd.cBlock : Codec Tryd.prog (Bool × List Int) := Codec.struct (t := 49) (Fields.cons Tryd.cB (Fields.one Tryd.cIs)) Tryd.underlying49 (by kernel_rfl) (by rfl) (by decide) (of_decide_eq_true (by kernel_rfl))
def Tryd.cBlocks : Codec Tryd.prog (List (Bool × List Int)) := Tryd.cBlock.slice (t := 22) Tryd.underlying22 (by kernel_rfl) (of_decide_eq_true (by kernel_rfl))
def Tryd.cGame : Codec Tryd.prog (Bool × List Int × List Int × List (List Int)) := Codec.struct (t := 32) (Fields.cons Tryd.cB (Fields.cons Tryd.cIs (Fields.cons Tryd.cIs (Fields.one Tryd.cIss)))) Tryd.underlying32 (by kernel_rfl) (by rfl) (by decide) (of_decide_eq_true (by kernel_rfl))

section
variable {σ : Heap} (hn : ∀ l o, σ.get l = some o → l < σ.next)
include hn
theorem ints_of {xs : List Int} {us : List AVal} (h : Tryd.cIs.rel σ.get xs us) : ∃ x, us = [x] ∧ SlV .int σ xs x := by
  have h' : sliceRel 1 Tryd.cI.rel σ.get xs us := h
  obtain ⟨x, e, hx⟩ := slV_of Vw.int id rfl hn (fun a us h => h.1) h'
  exact ⟨x, e, by simpa using hx⟩
theorem intss_of {xs : List (List Int)} {us : List AVal} (h : Tryd.cIss.rel σ.get xs us) : ∃ x, us = [x] ∧ SlV (Vw.sl .int) σ xs x := by
  have h' : sliceRel 1 Tryd.cIs.rel σ.get xs us := h
  obtain ⟨x, e, hx⟩ := slV_of (Vw.sl .int) id rfl hn (fun a us h => ints_of hn h) h'
  exact ⟨x, e, by simpa using hx⟩
omit hn in
theorem ints_ok {xs : List Int} {us : List AVal} (h : Tryd.cIs.rel σ.get xs us) : xs.length ≤ 140737488351232 ∧ ∀ l ∈ xs, -9223372036854775808 ≤ l ∧ l ≤ 9223372036854775807 := by
  have h' : sliceRel 1 Tryd.cI.rel σ.get xs us := h
  refine ⟨sliceRel_len h', fun l hl => ?_⟩
  obtain ⟨u, hu⟩ := sliceRel_mem h' l hl
  exact hu.2
omit hn in
theorem intss_ok {xs : List (List Int)} {us : List AVal} (h : Tryd.cIss.rel σ.get xs us) : xs.length ≤ 140737488351232 ∧ ∀ c ∈ xs, c.length ≤ 140737488351232 ∧ ∀ l ∈ c, -9223372036854775808 ≤ l ∧ l ≤ 9223372036854775807 := by
  have h' : sliceRel 1 Tryd.cIs.rel σ.get xs us := h
  refine ⟨sliceRel_len h', fun l hl => ?_⟩
  obtain ⟨u, hu⟩ := sliceRel_mem h' l hl
  exact ints_ok hu
theorem game_of {a : Bool × List Int × List Int × List (List Int)} {us : List AVal} (h : Tryd.cGame.rel σ.get a us) : ∃ vo vi vc, us = [.bool a.1, vo, vi, vc] ∧ SlV .int σ a.2.1 vo ∧ SlV .int σ a.2.2.1 vi ∧ SlV (Vw.sl .int) σ a.2.2.2 vc ∧
    a.2.1.length ≤ 140737488351232 ∧ a.2.2.1.length ≤ 140737488351232 ∧ a.2.2.2.length ≤ 140737488351232 ∧ ∀ c ∈ a.2.2.2, c.length ≤ 140737488351232 ∧ ∀ l ∈ c, -9223372036854775808 ≤ l ∧ l ≤ 9223372036854775807 := by
  obtain ⟨h1, h2, h3, h4⟩ := (h : Tryd.cB.rel _ a.1 (us.take 1) ∧ Tryd.cIs.rel _ a.2.1 ((us.drop 1).take 1) ∧ Tryd.cIs.rel _ a.2.2.1 (((us.drop 1).drop 1).take 1) ∧ Tryd.cIss.rel _ a.2.2.2 (((us.drop 1).drop 1).drop 1))
  have h1' : us.take 1 = [.bool a.1] := h1
  obtain ⟨vo, e2, w2⟩ := ints_of hn h2
  obtain ⟨vi, e3, w3⟩ := ints_of hn h3
  obtain ⟨vc, e4, w4⟩ := intss_of hn h4
  have e2 : (us.drop 1).take 1 = [vo] := e2
  have e3 : ((us.drop 1).drop 1).take 1 = [vi] := e3
  have e4 : ((us.drop 1).drop 1).drop 1 = [vc] := e4
  refine ⟨vo, vi, vc, ?_, w2, w3, w4, (ints_ok h2).1, (ints_ok h3).1, (intss_ok h4).1, (intss_ok h4).2⟩
  rw [← List.take_append_drop 1 us, ← List.take_append_drop 1 (us.drop 1), ← List.take_append_drop 1 ((us.drop 1).drop 1), h1', e2, e3, e4]; rfl
theorem blocks_of {xs : List (Bool × List Int)} {us : List AVal} (h : Tryd.cBlocks.rel σ.get xs us) : ∃ x, us = [x] ∧ SlV (Vw.pair .bool (Vw.sl .int)) σ xs x := by
  have h' : sliceRel 2 Tryd.cBlock.rel σ.get xs us := h
  obtain ⟨x, e, hx⟩ := slV_of (Vw.pair .bool (Vw.sl .int)) id rfl hn (fun a us h => by
    obtain ⟨h1, h2⟩ := (h : Tryd.cB.rel _ a.1 (us.take 1) ∧ Tryd.cIs.rel _ a.2 (us.drop 1))
    obtain ⟨x, e, hx⟩ := ints_of hn h2
    exact ⟨us.take 1, us.drop 1, (List.take_append_drop 1 us).symm, h1, x, e, hx⟩) h'
  exact ⟨x, e, by simpa using hx⟩
end
end Go.Proofs.YtgneblbblihaoaaDoor.A

/- The seat's own numbers: formulas as0 arguments; the errors' variables. -/
namespace Go.Proofs.YtgneblbblihaoaaDoor.A
open Go Go.RowKit

def Tryd.cCNF : Codec Tryd.prog (Int × List (List Int)) := Codec.struct (t := 25) (Fields.cons Tryd.cI (Fields.one Tryd.cIss)) Tryd.underlying25 (by kernel_rfl) (by rfl) (by decide) (of_decide_eq_true (by kernel_rfl))
def Tryd.cFormula : Codec Tryd.prog (List (Bool × List Int) × Int × List (List Int)) := Codec.struct (t := 27) (Fields.cons Tryd.cBlocks (Fields.one Tryd.cCNF)) Tryd.underlying27 (by kernel_rfl) (by rfl) (by decide) (of_decide_eq_true (by kernel_rfl))
section
variable {σ : Heap} (hn : ∀ l o, σ.get l = some o → l < σ.next)
include hn
theorem cnf_of {a : Int × List (List Int)} {us : List AVal} (h : Tryd.cCNF.rel σ.get a us) : ∃ vc, us = [.int .i64 a.1, vc] ∧ SlV (Vw.sl .int) σ a.2 vc ∧ a.2.length ≤ 140737488351232 ∧ ∀ c ∈ a.2, c.length ≤ 140737488351232 ∧ ∀ l ∈ c, -9223372036854775808 ≤ l ∧ l ≤ 9223372036854775807 := by
  obtain ⟨h1, h2⟩ := (h : Tryd.cI.rel _ a.1 (us.take 1) ∧ Tryd.cIss.rel _ a.2 (us.drop 1))
  have h1' : us.take 1 = [.int .i64 a.1] := h1.1
  obtain ⟨vc, e4, w4⟩ := intss_of hn h2
  have e4 : us.drop 1 = [vc] := e4
  refine ⟨vc, ?_, w4, (intss_ok h2).1, (intss_ok h2).2⟩
  rw [← List.take_append_drop 1 us, h1', e4]; rfl
theorem blocks_ok {xs : List (Bool × List Int)} {us : List AVal} (h : Tryd.cBlocks.rel σ.get xs us) : xs.length ≤ 140737488351232 ∧ ∀ b ∈ xs, b.2.length ≤ 140737488351232 ∧ ∀ l ∈ b.2, l ≤ 9223372036854775807 := by
  have h' : sliceRel 2 Tryd.cBlock.rel σ.get xs us := h
  refine ⟨sliceRel_len h', fun b hb => ?_⟩
  obtain ⟨u, hu⟩ := sliceRel_mem h' b hb
  obtain ⟨h1, h2⟩ := (hu : Tryd.cB.rel _ b.1 (u.take 1) ∧ Tryd.cIs.rel _ b.2 (u.drop 1))
  exact ⟨(ints_ok h2).1, fun l hl => ((ints_ok h2).2 l hl).2⟩
theorem formula_of {a : List (Bool × List Int) × Int × List (List Int)} {us : List AVal} (h : Tryd.cFormula.rel σ.get a us) : ∃ vb vc, us = [vb, .int .i64 a.2.1, vc] ∧ SlV (Vw.pair .bool (Vw.sl .int)) σ a.1 vb ∧ SlV (Vw.sl .int) σ a.2.2 vc ∧
    a.1.length ≤ 140737488351232 ∧ (∀ b ∈ a.1, b.2.length ≤ 140737488351232 ∧ ∀ l ∈ b.2, l ≤ 9223372036854775807) ∧ a.2.2.length ≤ 140737488351232 ∧ ∀ c ∈ a.2.2, c.length ≤ 140737488351232 ∧ ∀ l ∈ c, -9223372036854775808 ≤ l ∧ l ≤ 9223372036854775807 := by
  obtain ⟨h1, h2⟩ := (h : Tryd.cBlocks.rel _ a.1 (us.take 1) ∧ Tryd.cCNF.rel _ a.2 (us.drop 1))
  obtain ⟨vb, e1, w1⟩ := blocks_of hn h1
  obtain ⟨vc, e2, w2, w3, w4⟩ := cnf_of hn h2
  have e1 : us.take 1 = [vb] := e1
  have e2 : us.drop 1 = [.int .i64 a.2.1, vc] := e2
  refine ⟨vb, vc, ?_, w1, w2, (blocks_ok hn h1).1, (blocks_ok hn h1).2, w3, w4⟩
  rw [← List.take_append_drop 1 us, e1, e2]; rfl
/-- The errors' variables, as0 a law lays them. -/
theorem gls_of (E : List Er) (gl : List (Nat × List UInt8)) (hE : ∀ e ∈ E, ∃ k, heapG 7 224 gl e.g = some (.cells .rz 1 [.ifc tErr (.ptr (7 + k) 0)]) ∧ gl[k]? = some (e.g, e.s) ∧ e.g < 7) (hg : ∀ l, l < 7 + gl.length → σ.get l = heapG 7 224 gl l) : GlS E σ := fun e he => by
  obtain ⟨k, h1, h2, h3⟩ := hE e he
  have hk := (List.getElem?_eq_some_iff.1 h2).1
  have a1 := hg e.g (by omega)
  have a2 := hg (7 + k) (by omega)
  rw [h1] at a1
  have h4 : heapG 7 224 gl (7 + k) = some (.cells .rz 1 [.str ⟨e.s.toArray⟩]) := by
    unfold heapG
    rw [if_neg (by omega), Nat.add_sub_cancel_left, h2]; rfl
  rw [h4] at a2
  exact ⟨_, hn _ _ a1, a1, 7 + k, rfl, hn _ _ a2, a2⟩
end
def glAllOf : List (Nat × List UInt8) := [(gText, Er.s .text), (gLimit, Er.s .limit), (gBudget, Er.s .budget), (gRange, Er.s .range), (gBlocks, Er.s .blocks), (gProof, Er.s .proof), (gCert, Er.s .cert)]
end Go.Proofs.YtgneblbblihaoaaDoor.A
