/- PrefixMatrix, as plain law. -/
import Derived.Test.YtgneblbblihaoaaDoorN0
set_option linter.all false
namespace Go.Proofs.YtgneblbblihaoaaDoor.A
open Go

theorem matrix_plain {σ : Heap} {e : Bool} {outer inner : List Int} {cs : List (List Int)} {vo vi vc : AVal} (ho : SlV .int σ outer vo) (hi : SlV .int σ inner vi) (hc : SlV vIs σ cs vc)
    (h1 : outer.length ≤ 140737488351232) (h2 : inner.length ≤ 140737488351232) (h3 : cs.length ≤ 140737488351232) (h4 : ∀ c ∈ cs, c.length ≤ 140737488351232) (hr : ∀ c ∈ cs, ∀ l ∈ c, l ≤ 9223372036854775807) :
    ∃ τ, S.skolemlaw6_PrefixMatrix (.agg [.bool e, vo, vi, vc]) σ = some (true, τ) := by
  unfold S.skolemlaw6_PrefixMatrix
  simp only [aggK, newK, List.length_cons, List.length_nil, if_true]
  have A1 := At.new σ 4 [.bool e, vo, vi, vc]
  have L1 := (Hle.refl σ).new (.cells .rw 4 [.bool e, vo, vi, vc])
  generalize hσ1 : σ.new (.cells .rw 4 [.bool e, vo, vi, vc]) = σ1 at A1 L1 ⊢
  obtain ⟨σ2, e2, L2⟩ := first6_eq σ1
  rw [e2]
  simp only [Option.bind_some, Bool.not_true, cond_false]
  have A2 := A1.mono L2
  have L12 := L1.trans L2
  have ho2 := ho.mono L12
  have hi2 := hi.mono L12
  have hc2 := hc.mono L12
  have g1 : ∀ {Rt : Type} (K : AVal → Option Rt), ld σ2 (.ptr σ.next 1) (.V) K = K vo := fun K => by rw [A2.ld0 (k := 1) rfl]; rfl
  have g2 : ∀ {Rt : Type} (K : AVal → Option Rt), ld σ2 (.ptr σ.next 2) (.V) K = K vi := fun K => by rw [A2.ld0 (k := 2) rfl]; rfl
  have g3 : ∀ {Rt : Type} (K : AVal → Option Rt), ld σ2 (.ptr σ.next 3) (.V) K = K vc := fun K => by rw [A2.ld0 (k := 3) rfl]; rfl
  rw [g1, ho.len]
  by_cases b1 : outer.length > 30
  · rw [show decide ((outer.length : Int) > 30) = true from decide_eq_true (by omega)]; exact ⟨σ2, rfl⟩
  rw [show decide ((outer.length : Int) > 30) = false from decide_eq_false (by omega)]
  simp only [cond_false]
  rw [g2, hi.len]
  by_cases b2 : inner.length > 30
  · rw [show decide ((inner.length : Int) > 30) = true from decide_eq_true (by omega)]; exact ⟨σ2, rfl⟩
  rw [show decide ((inner.length : Int) > 30) = false from decide_eq_false (by omega)]
  simp only [cond_false]
  rw [g3, hc.len]
  by_cases b3 : cs.length > 60
  · rw [show decide ((cs.length : Int) > 60) = true from decide_eq_true (by omega)]; exact ⟨σ2, rfl⟩
  rw [show decide ((cs.length : Int) > 60) = false from decide_eq_false (by omega)]
  simp only [cond_false]
  obtain ⟨n1, k1, k2⟩ := nearAll_eq hc2 (by omega) (fun c hc => by have := h4 c hc; omega)
  rw [g3, k1]
  cases n1 with
  | false => exact ⟨σ2, rfl⟩
  | true =>
    simp only [Option.bind_some, Bool.not_true, cond_false]
    obtain ⟨n2, k3, _⟩ := near_eq ho2 (by omega)
    rw [g1, k3]
    cases n2 with
    | false => exact ⟨σ2, rfl⟩
    | true =>
      simp only [Option.bind_some, Bool.not_true, cond_false]
      obtain ⟨n3, k4, _⟩ := near_eq hi2 (by omega)
      rw [g2, k4]
      cases n3 with
      | false => exact ⟨σ2, rfl⟩
      | true =>
        simp only [Option.bind_some, Bool.not_true, cond_false]
        rw [g3, count_eq hc2 (by omega) (fun c hc => by have := h4 c hc; omega)]
        simp only [Option.bind_some]
        by_cases b4 : cs.flatten.length > 300
        · rw [show decide (((cs.flatten.length : Nat) : Int) > 300) = true from decide_eq_true (by omega)]; exact ⟨σ2, rfl⟩
        rw [show decide (((cs.flatten.length : Nat) : Int) > 300) = false from decide_eq_false (by omega)]
        simp only [cond_false]
        have hcl : ∀ c ∈ cs, c.length ≤ 300 := fun c hc => by
          have : c.length ≤ cs.flatten.length := by
            obtain ⟨s, t, rfl⟩ := List.append_of_mem hc
            simp; omega
          omega
        have hn : ∀ c ∈ cs, Nears c ∧ c.length ≤ 100000 := fun c hc => ⟨fun l hl => ⟨k2 rfl c hc l hl, hr c hc l hl⟩, by have := hcl c hc; omega⟩
        rw [A2.ldG (n := 4) rfl]
        obtain ⟨y1, σ3, e3, L3, v3⟩ := prefixMatrix_eq (e := e) ho2 hi2 hc2 (by omega) (by omega) hn (by omega)
        rw [e3]
        simp only [Option.bind_some]
        rw [(A2.mono L3).ldG (n := 4) rfl]
        obtain ⟨y2, σ4, e4, L4, v4⟩ := refMatrix_eq (e := e) (ho2.mono L3) (hi2.mono L3) (hc2.mono L3) (by omega) (by omega) hn (by omega)
        rw [e4]
        simp only [Option.bind_some, cond_true]
        have hml : ∀ zs, matrix (outer ++ inner) cs = some zs → zs.length = cs.length ∧ ∀ z ∈ zs, z.length ≤ 300 := fun zs hz => by
          refine ⟨mapM_length hz, fun z hz' => ?_⟩
          have : ∀ (cs : List (List Int)) zs, (∀ c ∈ cs, c.length ≤ 300) → cs.mapM (renC (outer ++ inner)) = some zs → ∀ z ∈ zs, z.length ≤ 300 := by
            intro cs
            induction cs with
            | nil => intro zs _ h z hz; simp at h; subst h; cases hz
            | cons c cs ih =>
              intro zs hl h z hz
              rw [List.mapM_cons] at h
              simp only [Option.bind_eq_bind, Option.bind_eq_some_iff, Option.pure_def, Option.some.injEq] at h
              obtain ⟨b, hb, bs, h2, rfl⟩ := h
              rcases List.mem_cons.1 hz with rfl | hz
              · have := mapM_length hb; have := hl c List.mem_cons_self; omega
              · exact ih bs (fun c hc => hl c (List.mem_cons_of_mem _ hc)) h2 z hz
          exact this cs zs hcl hz z hz'
        rw [sameClauses_eq (v3.mono L4) v4 (by
          cases hm : matrix (outer ++ inner) cs with
          | none => simp
          | some zs => have := (hml zs hm).1; simp; omega) (fun a ha => by
          cases hm : matrix (outer ++ inner) cs with
          | none => rw [hm] at ha; cases ha
          | some zs => rw [hm] at ha; have := (hml zs hm).2 a ha; omega)]
        simp only [Option.bind_some, decide_true, cond_true, beq_self_eq_true]
        exact ⟨σ4, rfl⟩
end Go.Proofs.YtgneblbblihaoaaDoor.A
