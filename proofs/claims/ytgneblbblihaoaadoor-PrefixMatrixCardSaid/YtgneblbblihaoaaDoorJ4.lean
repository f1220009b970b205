/- The chapter's example: the game of the formula of nothing. -/
import Derived.Test.YtgneblbblihaoaaDoorJ3
set_option linter.all false
namespace Go.Proofs.YtgneblbblihaoaaDoor.A
open Go

theorem lenV_nils {Rt : Type} (K : Int → Option Rt) : lenV .nils K = K 0 := rfl
theorem stop0 {X Y : Type} {f : X → Heap → Option ((X ⊕ Y) × Heap)} {x : X} {σ : Heap} {y : Y} (h : f x σ = some (.inr y, σ)) : loopW f x σ = some (y, σ) := loopW_stop h

theorem litsCheck_nil (σ : Heap) : S.lits_Check (.agg [.int .i64 0, .nils]) σ = some (.nili, σ.new (.cells .rw 2 [.int .i64 0, .nils])) := by
  unfold S.lits_Check
  simp only [aggK, newK, List.length_cons, List.length_nil, if_true]
  have A1 := At.new σ 2 [.int .i64 0, .nils]
  generalize h1 : σ.new (.cells .rw 2 [.int .i64 0, .nils]) = σ1 at A1 ⊢
  rw [A1.ld0 (k := 1) rfl]
  simp only [asK, lenV]
  rw [loopP_stop (y := 0) (by rfl)]
  simp only [Option.bind_some]
  rw [A1.ld0 (k := 0) rfl]
  simp only [asK, if_true, cond_false, decide_false, Option.bind_some, show decide ((0 : Int) < 0) = false from rfl]
  rw [A1.ld0 (k := 0) rfl]
  simp only [asK, if_true, cond_false, show decide ((0 : Int) > 4000) = false from rfl]
  rw [A1.ld0 (k := 1) rfl]
  simp only [asK, lenV, cond_false, Option.bind_some, show decide ((0 : Int) > 20000) = false from rfl, show decide ((0 : Int) > 80000) = false from rfl]
  rw [A1.ld0 (k := 1) rfl]
  simp only [asK, lenV]
  rw [stop0 (y := .inl ()) (by rfl)]
  rfl

theorem qcheck_nil (σ : Heap) : ∃ τ, S.qdimacs_Check (.agg [.nils, .int .i64 0, .nils]) σ = some (.nili, τ) ∧ Hle σ τ := by
  unfold S.qdimacs_Check
  simp only [aggK, newK, List.length_cons, List.length_nil, if_true]
  have A1 := At.new σ 3 [.nils, .int .i64 0, .nils]
  have L1 := (Hle.refl σ).new (.cells .rw 3 [.nils, .int .i64 0, .nils])
  generalize σ.new (.cells .rw 3 [.nils, .int .i64 0, .nils]) = σ1 at A1 L1 ⊢
  have A2 := A1.drop 1 (by simp)
  rw [show (1 : Nat) = 0 + 1 from rfl, A2.ldG (n := 2) rfl]
  simp only [List.drop_succ_cons, List.drop_zero]
  rw [litsCheck_nil]
  simp only [Option.bind_some, eqI, cond_true, Bool.not_true, cond_false, newM]
  generalize hσ2 : (σ1.new (.cells .rw 2 [.int .i64 0, .nils])) = σ2
  have L2 : Hle σ1 σ2 := by rw [← hσ2]; exact (Hle.refl σ1).new _
  have L3 := (Hle.refl σ2).new (.map [])
  rw [((A1.mono L2).mono L3).ld0 (k := 0) rfl]
  simp only [asK, lenV]
  rw [stop0 (y := .inl ()) (by rfl)]
  exact ⟨_, rfl, (L1.trans L2).trans L3⟩

theorem free_nil (σ : Heap) : ∃ τ, S.prefix_Free (.agg [.nils, .int .i64 0, .nils]) σ = some (.nils, τ) ∧ Hle σ τ := by
  unfold S.prefix_Free
  simp only [aggK, newK, List.length_cons, List.length_nil, if_true, newM]
  have A1 := At.new σ 3 [.nils, .int .i64 0, .nils]
  have L1 := (Hle.refl σ).new (.cells .rw 3 [.nils, .int .i64 0, .nils])
  generalize σ.new (.cells .rw 3 [.nils, .int .i64 0, .nils]) = σ1 at A1 L1 ⊢
  have L2 := (Hle.refl σ1).new (.map [])
  have hg : (σ1.new (.map [])).get σ1.next = some (.map []) := by rw [hnew_get, if_pos rfl]
  have hn : σ1.next < (σ1.new (.map [])).next := Nat.lt_succ_self _
  generalize hσ2 : σ1.new (.map []) = σ2 at L2 hg hn ⊢
  rw [(A1.mono L2).ld0 (k := 2) rfl]
  simp only [asK, lenV]
  rw [stop0 (y := ()) (by rfl)]
  simp only [Option.bind_some]
  rw [(A1.mono L2).ld0 (k := 0) rfl]
  simp only [asK, lenV]
  rw [stop0 (y := ()) (by rfl)]
  simp only [Option.bind_some, S.maps_Keys_map_int_bool_int_bool, S.slices_Sorted_int, keysS, hg, sortedKeysS, if_true, hnew_get, Nat.ne_of_lt hn, if_false, List.map_nil, intsL, List.length_nil, List.all_nil, Nat.zero_le, and_self, if_pos]
  exact ⟨_, rfl, (L1.trans L2).trans ((Hle.refl σ2).new _)⟩

theorem first6_eq (σ : Heap) : ∃ τ, S.skolemlaw6_first σ = some (true, τ) ∧ Hle σ τ := by
  have norm : ∃ y τ, S.prefix_Norm (.agg [.nils, .int .i64 0, .nils]) σ = some ((.agg [.bool true, .nils, .nils, y], .nili), τ) ∧ Hle σ τ := by
    unfold S.prefix_Norm
    simp only [aggK, newK, List.length_cons, List.length_nil, if_true]
    have A1 := At.new σ 3 [.nils, .int .i64 0, .nils]
    have L1 := (Hle.refl σ).new (.cells .rw 3 [.nils, .int .i64 0, .nils])
    generalize σ.new (.cells .rw 3 [.nils, .int .i64 0, .nils]) = σ1 at A1 L1 ⊢
    have A2 := At.new σ1 4 [.bool false, .nils, .nils, .nils]
    have L2 := (Hle.refl σ1).new (.cells .rw 4 [.bool false, .nils, .nils, .nils])
    have hg2 : (σ1.new (.cells .rw 4 [.bool false, .nils, .nils, .nils])).get σ1.next = some (.cells .rw 4 [.bool false, .nils, .nils, .nils]) := by rw [hnew_get, if_pos rfl]
    have hl2 : σ.next < σ1.next := by
      obtain ⟨l, o, md, sz, cs, e, h, _⟩ := A1; cases e; exact h
    generalize hσ2 : σ1.new (.cells .rw 4 [.bool false, .nils, .nils, .nils]) = σ2 at A2 L2 hg2 ⊢
    rw [(A1.mono L2).ldG (n := 3) rfl]
    obtain ⟨σ3, e3, L3⟩ := qcheck_nil σ2
    rw [e3]
    simp only [Option.bind_some, eqI, cond_true, Bool.not_true, cond_false]
    rw [((A1.mono L2).mono L3).ldG (n := 3) rfl]
    obtain ⟨σ4, e4, L4⟩ := free_nil σ3
    rw [e4]
    simp only [Option.bind_some, scal]
    rw [(((A1.mono L2).mono L3).mono L4).ld0 (k := 0) rfl]
    simp only [asK]
    rw [((A1.mono L2).mono L3).ld0 (k := 0) rfl]
    simp only [asK, chk, if_true]
    have L5 := (Hle.refl σ4).new (.cells .rw 2 [.bool true, .nils])
    have hsl : SlV vB (σ4.new (.cells .rw 2 [.bool true, .nils])) [(true, [])] (.sl σ4.next 0 1 none) :=
      .inr ⟨σ4.next, 0, none, .rw, [.bool true, .nils], rfl, Nat.lt_succ_self _, by rw [hnew_get, if_pos rfl]; rfl, by simp [vB, Vw.pair, Vw.bool, Vw.sl], fun j a ha => by
        cases j with
        | zero => simp at ha; subst ha; exact vB_mk (SlV.nil _ _)
        | succ j => simp at ha⟩
    generalize hσ5 : σ4.new (.cells .rw 2 [.bool true, .nils]) = σ5 at L5 hsl ⊢
    have happ : ∀ {Rt : Type} (K : AVal → Heap → Option Rt), appS σ5 2 32 (.sl σ4.next 0 1 none) .nils K = K (.sl σ4.next 0 1 none) σ5 := fun K => by
      have hg : σ5.get σ4.next = some (.cells .rw 2 [.bool true, .nils]) := by rw [← hσ5, hnew_get, if_pos rfl]
      simp only [appS, srcK, appC, hg, if_true]
      rw [if_pos ⟨trivial, by omega, by simp⟩]
    rw [happ]
    obtain ⟨m, σ6, e6, L6, hm⟩ := merge_eq hsl (by simp) (by simp [total])
    rw [e6]
    simp only [Option.bind_some]
    have L16 := (((L2.trans L3).trans L4).trans L5).trans L6
    rw [(A1.mono L16).ld0 (k := 2) rfl]
    simp only [asK, S.lits_Clone, lenV_nils, mkS]
    rw [if_pos (by decide)]
    simp only [newK, Int.toNat_zero, rep, lenV_nils]
    rw [stop0 (y := .sl σ6.next 0 0 none) (by rfl)]
    simp only [Option.bind_some, scal]
    have L7 := (Hle.refl σ6).new (.cells .rw 1 [])
    generalize hσ7 : σ6.new (.cells .rw 1 []) = σ7 at L7 ⊢
    have hst : ∀ {Rt : Type} (K : Heap → Option Rt), stC (σ7.new (.cells .rw 4 [.bool false, .nils, .nils, .nils])) (.ptr σ7.next 0) [.bool true, .nils, .nils, .sl σ6.next 0 0 none] K = K ((σ7.new (.cells .rw 4 [.bool false, .nils, .nils, .nils])).set σ7.next (.cells .rw 4 [.bool true, .nils, .nils, .sl σ6.next 0 0 none])) := fun K => by
      simp only [stC, hnew_get, if_true]; rfl
    rw [hst]
    generalize hσ8 : (σ7.new (.cells .rw 4 [.bool false, .nils, .nils, .nils])).set σ7.next (.cells .rw 4 [.bool true, .nils, .nils, .sl σ6.next 0 0 none]) = σ8
    have L8 : Hle σ7 σ8 := by rw [← hσ8]; exact ((Hle.refl σ7).new _).set (Nat.le_refl _) _
    have hg8 : σ8.get σ7.next = some (.cells .rw 4 [.bool true, .nils, .nils, .sl σ6.next 0 0 none]) := by rw [← hσ8, hset_get, if_pos rfl]
    have hn8 : σ7.next < σ8.next := by rw [← hσ8, hset_next, hnew_next]; omega
    have A8 := At.of_get hn8 hg8
    have hm0 : merge [(true, ([] : List Int))] = [] := rfl
    rw [hm0] at hm
    rw [hm.len]
    simp only [List.length_nil, show (((0 : Nat) : Int) == 0) = true from rfl, cond_true]
    rw [A8.ldG (n := 4) rfl]
    simp only [if_true, List.length_cons, List.length_nil]
    have hg9 : σ8.get σ1.next = some (.cells .rw 4 [.bool false, .nils, .nils, .nils]) := by
      have := (((((L3.trans L4).trans L5).trans L6).trans L7).trans L8).get σ1.next _ (by rw [← hσ2, hnew_next]; omega) hg2
      exact this
    have hst2 : ∀ {Rt : Type} (K : Heap → Option Rt), stC σ8 (.ptr σ1.next 0) [.bool true, .nils, .nils, .sl σ6.next 0 0 none] K = K (σ8.set σ1.next (.cells .rw 4 [.bool true, .nils, .nils, .sl σ6.next 0 0 none])) := fun K => by
      simp only [stC, hg9]; rfl
    rw [hst2]
    have L19 := ((((L3.trans L4).trans L5).trans L6).trans L7).trans L8
    have hn9 : σ1.next < σ8.next := Nat.lt_of_lt_of_le (by rw [← hσ2, hnew_next]; omega) L19.next
    have A9 : At (σ8.set σ1.next (.cells .rw 4 [.bool true, .nils, .nils, .sl σ6.next 0 0 none])) (.ptr σ1.next 0) [.bool true, .nils, .nils, .sl σ6.next 0 0 none] :=
      At.of_get (md := .rw) (sz := 4) hn9 (by rw [hset_get, if_pos rfl])
    rw [A9.ldG (n := 4) rfl]
    exact ⟨_, _, rfl, (((L1.trans L2).trans L19).set (by have := L1.next; omega) _)⟩
  obtain ⟨y, τ, e, L⟩ := norm
  unfold S.skolemlaw6_first
  rw [e]
  simp only [Option.bind_some, newK, aggK, List.length_cons, List.length_nil, if_true]
  have hst : ∀ {Rt : Type} (K : Heap → Option Rt), stC (τ.new (.cells .rw 4 [.bool false, .nils, .nils, .nils])) (.ptr τ.next 0) [.bool true, .nils, .nils, y] K = K ((τ.new (.cells .rw 4 [.bool false, .nils, .nils, .nils])).set τ.next (.cells .rw 4 [.bool true, .nils, .nils, y])) := fun K => by
    simp only [stC, hnew_get, if_true]; rfl
  rw [hst]
  generalize hσ : (τ.new (.cells .rw 4 [.bool false, .nils, .nils, .nils])).set τ.next (.cells .rw 4 [.bool true, .nils, .nils, y]) = σ'
  have L' : Hle τ σ' := by rw [← hσ]; exact ((Hle.refl τ).new _).set (Nat.le_refl _) _
  have A' : At σ' (.ptr τ.next 0) [.bool true, .nils, .nils, y] := At.of_get (md := .rw) (sz := 4) (by rw [← hσ, hset_next, hnew_next]; omega) (by rw [← hσ, hset_get, if_pos rfl])
  simp only [eqI, cond_true]
  rw [A'.ld0 (k := 0) rfl]
  exact ⟨σ', rfl, L.trans L'⟩
end Go.Proofs.YtgneblbblihaoaaDoor.A
