/- A game's matrix. -/
import Derived.Test.YtgneblbblihaoaaDoorJ8
set_option linter.all false
namespace Go.Proofs.YtgneblbblihaoaaDoor.A
open Go

theorem at_set_ne {σ τ : Heap} {l : Nat} (hn : τ.next = σ.next) (hg : ∀ k, k ≠ l → τ.get k = σ.get k) {σ0 : Heap} (L : Hle σ0 σ) (hl : σ0.next ≤ l) : Hle σ0 τ :=
  ⟨by rw [hn]; exact L.next, fun k o hk h => by rw [hg k (by omega)]; exact L.get k o hk h⟩

theorem matrix_b0 {σb : Heap} {l4 : Nat} {ws : List Int} {v p12 : AVal} (hm : MapV σb l4 []) (hv : SlV .int σb ws v) (hne : ∀ l off len c, v = .sl l off len c → l ≠ l4) (hlen : ws.length ≤ 100000) :
    ∃ r τ, loopW (S.prefix_Matrix.b0 p12 (.map l4) v ws.length) 0 σb = some (r, τ) ∧ τ.next = σb.next ∧ (∀ k, k ≠ l4 → τ.get k = σb.get k) ∧ ∃ ps, MapV τ l4 ps ∧ ∀ v, (look ps v).getD (.int .i64 0) = .int .i64 (place ws v) := by
  refine loopW_inv (f := S.prefix_Matrix.b0 p12 (.map l4) v ws.length) (x := 0) (σ := σb) ws.length (fun i x τ => x = (i : Int) ∧ τ.next = σb.next ∧ (∀ k, k ≠ l4 → τ.get k = σb.get k) ∧ ∃ ps, MapV τ l4 ps ∧ ∀ v, (look ps v).getD (.int .i64 0) = .int .i64 (place (ws.take i) v))
    (fun r τ => τ.next = σb.next ∧ (∀ k, k ≠ l4 → τ.get k = σb.get k) ∧ ∃ ps, MapV τ l4 ps ∧ ∀ v, (look ps v).getD (.int .i64 0) = .int .i64 (place ws v)) ?_ ?_ ⟨rfl, rfl, fun _ _ => rfl, [], hm, fun v => rfl⟩
  · intro i x τ hi hI
    obtain ⟨rfl, hn, hg, ps, hps, hl⟩ := hI
    obtain ⟨a, ha⟩ : ∃ a, ws[i]? = some a := ⟨_, List.getElem?_eq_getElem hi⟩
    have hv' : SlV .int τ ws v := hv.flat Vw.int_flat (by omega) fun l off len c e => hg l (hne l off len c e)
    obtain ⟨p, us, c2, c3, c1⟩ := hv'.ix ha
    have hd : decide ((i : Int) < (ws.length : Int)) = true := decide_eq_true (by omega)
    have w2 : IntKind.i64.wrap ((i : Int) + 1) = ((i + 1 : Nat) : Int) := by rw [wrapS] <;> omega
    have htl : (ws.take i).length = i := by simp; omega
    have hpush : ∀ v, place (ws.take (i + 1)) v = if place (ws.take i) v = 0 ∧ a = v then i + 1 else place (ws.take i) v := fun v => by
      rw [List.take_add_one, ha]
      show place (ws.take i ++ [a]) v = _
      rw [place_push, htl]
    refine .inl ?_
    unfold S.prefix_Matrix.b0
    simp only [hd, cond_true, w2]
    rw [show ixA τ v 1 = ixA τ v Vw.int.sz from rfl, c1 (Hle.refl _), ld_i c2 c3, hps.mgetZ, hl]
    simp only [asK, if_true]
    by_cases h0 : place (ws.take i) a = 0
    · rw [h0]
      simp only [show (((0 : Nat) : Int) == 0) = true from rfl, cond_true]
      obtain ⟨qs, e1, e2, e3, _⟩ := hps.mput a (.int .i64 ((i + 1 : Nat) : Int))
      rw [e1]
      simp only [Option.bind_some]
      refine ⟨_, _, rfl, rfl, hn, fun k hk => by rw [hset_get, if_neg hk]; exact hg k hk, qs, e2, fun v => ?_⟩
      rw [e3, hpush]
      by_cases hva : v = a
      · subst hva; simp [h0]
      · rw [if_neg hva, if_neg (fun h => hva h.2.symm)]; exact hl v
    · have : (((place (ws.take i) a : Nat) : Int) == 0) = false := by simpa using h0
      simp only [this, cond_false, Option.bind_some]
      refine ⟨_, _, rfl, rfl, hn, hg, ps, hps, fun v => ?_⟩
      rw [hpush, if_neg (fun h => h0 (by rw [h.2]; exact h.1))]; exact hl v
  · intro x τ hI
    obtain ⟨rfl, hn, hg, ps, hps, hl⟩ := hI
    rw [List.take_length] at hl
    refine ⟨(), τ, ?_, hn, hg, ps, hps, hl⟩
    unfold S.prefix_Matrix.b0
    have hd : decide ((ws.length : Int) < (ws.length : Int)) = false := by simp
    simp only [hd, cond_false]

theorem prefixMatrix_eq {σ : Heap} {e : Bool} {outer inner : List Int} {cs : List (List Int)} {vo vi vc : AVal} (ho : SlV .int σ outer vo) (hi : SlV .int σ inner vi) (hc : SlV vIs σ cs vc) (h1 : outer.length ≤ 1000) (h2 : inner.length ≤ 1000) (hn : ∀ c ∈ cs, Nears c ∧ c.length ≤ 100000) (h3 : cs.length ≤ 100000) :
    ∃ y τ, S.prefix_Matrix (.agg [.bool e, vo, vi, vc]) σ = some ((y, (matrix (outer ++ inner) cs).isSome), τ) ∧ Hle σ τ ∧ SlV vIs τ ((matrix (outer ++ inner) cs).getD []) y := by
  unfold S.prefix_Matrix
  simp only [aggK, newK, List.length_cons, List.length_nil, if_true, newM]
  have A1 := At.new σ 4 [.bool e, vo, vi, vc]
  have L1 := (Hle.refl σ).new (.cells .rw 4 [.bool e, vo, vi, vc])
  generalize hσ1 : σ.new (.cells .rw 4 [.bool e, vo, vi, vc]) = σ1 at A1 L1 ⊢
  have M2 := MapV.new σ1
  have L2 := (Hle.refl σ1).new (.map [])
  generalize hσ2 : σ1.new (.map []) = σ2 at M2 L2 ⊢
  have hn2 : σ2.next = σ1.next + 1 := by rw [← hσ2]; rfl
  rw [(A1.mono L2).ld0 (k := 1) rfl]
  simp only [asK]
  rw [(A1.mono L2).ld0 (k := 2) rfl]
  simp only [asK]
  rw [ho.scal, hi.scal]
  have L12 := L1.trans L2
  have hsrc : SlV vIs (σ2.new (.cells .rw 1 [vo, vi])) [outer, inner] (.sl σ2.next 0 2 none) := by
    have L3 := (Hle.refl σ2).new (.cells .rw 1 [vo, vi])
    refine .inr ⟨σ2.next, 0, none, .rw, [vo, vi], rfl, Nat.lt_succ_self _, by rw [hnew_get, if_pos rfl]; rfl, by simp [vIs, Vw.sl], fun j z hz => ?_⟩
    match j with
    | 0 => simp at hz; subst hz; exact ⟨vo, rfl, (ho.mono L12).mono L3⟩
    | 1 => simp at hz; subst hz; exact ⟨vi, rfl, (hi.mono L12).mono L3⟩
    | j + 2 => simp at hz
  have L3 := (Hle.refl σ2).new (.cells .rw 1 [vo, vi])
  generalize hσ3 : σ2.new (.cells .rw 1 [vo, vi]) = σ3 at hsrc L3 ⊢
  obtain ⟨w, σ4, e4, L4, hw⟩ := concat_eq hsrc (by simp; omega) (by simp)
  simp only [List.flatten_cons, List.flatten_nil, List.append_nil] at hw
  rw [e4]
  simp only [Option.bind_some]
  rw [hw.len]
  obtain ⟨r, σ5, e5, hn5, hg5, ps, hps, hl⟩ := matrix_b0 (p12 := .ptr σ.next 0) ((M2.mono L3).mono L4) hw.sl (fun l off len c e => by have := (hw.loc l off len c e).1; have := L3.next; omega) (by simp; omega)
  rw [e5]
  simp only [Option.bind_some]
  have L15 : Hle σ1 σ5 := at_set_ne hn5 hg5 ((L2.trans L3).trans L4) (Nat.le_refl _)
  rw [(A1.mono L15).ld0 (k := 3) rfl]
  simp only [asK]
  rw [hc.len]
  obtain ⟨x6, σ6, e6, L6, A6⟩ := mk0 (v := vIs) (σ := σ5) (n := cs.length) (bytes := 24) (z := [.nils]) (by omega) (by omega)
  have e6 : ∀ {Rt : Type} (K : AVal → Heap → Option Rt), mkS σ5 1 24 [.nils] 0 (cs.length : Int) K = K x6 σ6 := e6
  rw [e6, (A1.mono (L15.trans L6)).ld0 (k := 3) rfl]
  simp only [asK]
  rw [hc.len]
  obtain ⟨r7, σ7, e7, L7, hr⟩ := matrix_b2 hps hl (by simp; omega) (hc.mono (L1.trans L15)) hn h3 L6 A6
  rw [e7]
  simp only [Option.bind_some]
  rcases hr with ⟨hr1, rfl⟩ | ⟨zs, y, hr1, rfl, hA⟩
  · rw [hr1]; exact ⟨_, σ7, rfl, (L1.trans L15).trans L7, SlV.nil _ _⟩
  · rw [hr1]; exact ⟨_, σ7, rfl, (L1.trans L15).trans L7, hA.sl⟩

/-! ### the reference -/
theorem place_hit {ws : List Int} {i : Nat} {v : Int} (h : ws[i]? = some v) (h0 : place (ws.take i) v = 0) : place ws v = i + 1 := by
  have hi := (List.getElem?_eq_some_iff.1 h).1
  have e : ws = ws.take (i + 1) ++ ws.drop (i + 1) := (List.take_append_drop ..).symm
  have h1 : place (ws.take (i + 1)) v = i + 1 := by
    rw [List.take_add_one, h]
    show place (ws.take i ++ [v]) v = _
    rw [place_push, if_pos ⟨h0, rfl⟩]; simp; omega
  rw [e, place_append_pos (by rw [h1]; omega), h1]
theorem place_miss {ws : List Int} {i : Nat} {v a : Int} (h : ws[i]? = some a) (hne : a ≠ v) (h0 : place (ws.take i) v = 0) : place (ws.take (i + 1)) v = 0 := by
  rw [List.take_add_one, h]
  show place (ws.take i ++ [a]) v = _
  rw [place_push, if_neg (fun h => hne h.2)]; exact h0

theorem refPlace_eq {σ : Heap} {e : Bool} {outer inner : List Int} {vo vi vc : AVal} {v : Int} (ho : SlV .int σ outer vo) (hi : SlV .int σ inner vi) (h1 : outer.length ≤ 1000) (h2 : inner.length ≤ 1000) :
    ∃ τ, S.skolemref1_place (.agg [.bool e, vo, vi, vc]) v σ = some (((place (outer ++ inner) v : Nat) : Int), τ) ∧ Hle σ τ := by
  unfold S.skolemref1_place
  simp only [aggK, newK, List.length_cons, List.length_nil, if_true]
  have A1 := At.new σ 4 [.bool e, vo, vi, vc]
  have L1 := (Hle.refl σ).new (.cells .rw 4 [.bool e, vo, vi, vc])
  generalize hσ1 : σ.new (.cells .rw 4 [.bool e, vo, vi, vc]) = σ1 at A1 L1 ⊢
  refine ⟨σ1, ?_, L1⟩
  obtain ⟨q1, f1, B1⟩ := A1.fld 1 (by simp)
  obtain ⟨q2, f2, B2⟩ := A1.fld 2 (by simp)
  have B1 : At σ1 q1 (vo :: [vi, vc]) := B1
  have B2 : At σ1 q2 (vi :: [vc]) := B2
  have g1 : ∀ {Rt : Type} (K : AVal → Option Rt), ld σ1 q1 .V K = K vo := fun K => by rw [B1.ld]; rfl
  have g2 : ∀ {Rt : Type} (K : AVal → Option Rt), ld σ1 q2 .V K = K vi := fun K => by rw [B2.ld]; rfl
  obtain ⟨r, e1, hr⟩ := loopP_inv (f := S.skolemref1_place.b0 v (.ptr σ.next 0) σ1) (x := (0 : Int)) outer.length (fun i x => x = (i : Int) ∧ place (outer.take i) v = 0) (fun r => (r = .inl () ∧ place outer v = 0) ∨ (r = .inr (place outer v : Int) ∧ place outer v ≠ 0))
    (fun i x hi' hI => by
      obtain ⟨rfl, h0⟩ := hI
      obtain ⟨a, ha⟩ : ∃ a, outer[i]? = some a := ⟨_, List.getElem?_eq_getElem hi'⟩
      obtain ⟨p, us, c2, c3, c1⟩ := (ho.mono L1).ix ha
      have hd : decide ((i : Int) < (outer.length : Int)) = true := decide_eq_true (by omega)
      have w2 : IntKind.i64.wrap ((i : Int) + 1) = ((i + 1 : Nat) : Int) := by rw [wrapS] <;> omega
      unfold S.skolemref1_place.b0
      rw [f1, g1, ho.len]
      simp only [hd, cond_true, w2]
      rw [f1, g1, show ixA σ1 vo 1 = ixA σ1 vo Vw.int.sz from rfl, c1 (Hle.refl _), ld_i c2 c3]
      by_cases hav : a = v
      · subst hav
        have := place_hit ha h0
        refine .inr ⟨.inr ((i + 1 : Nat) : Int), by simp only [beq_self_eq_true, cond_true], .inr ⟨by rw [this], by omega⟩⟩
      · have : (a == v) = false := by simpa using hav
        exact .inl ⟨_, by simp only [this, cond_false], rfl, place_miss ha hav h0⟩)
    (fun x hI => by
      obtain ⟨rfl, h0⟩ := hI
      rw [List.take_length] at h0
      refine ⟨.inl (), ?_, .inl ⟨rfl, h0⟩⟩
      unfold S.skolemref1_place.b0
      have hd : decide ((outer.length : Int) < (outer.length : Int)) = false := by simp
      rw [f1, g1, ho.len]; simp only [hd, cond_false]) ⟨rfl, by simp [place]⟩
  rw [e1]
  simp only [Option.bind_some]
  rcases hr with ⟨rfl, h0⟩ | ⟨rfl, h0⟩
  · simp only []
    obtain ⟨r2, e2, hr2⟩ := loopP_inv (f := S.skolemref1_place.b1 v (.ptr σ.next 0) σ1) (x := (0 : Int)) inner.length (fun i x => x = (i : Int) ∧ place (inner.take i) v = 0) (fun r => (r = .inl () ∧ place inner v = 0) ∨ (r = .inr ((outer.length + place inner v : Nat) : Int) ∧ place inner v ≠ 0))
      (fun i x hi' hI => by
        obtain ⟨rfl, h0⟩ := hI
        obtain ⟨a, ha⟩ : ∃ a, inner[i]? = some a := ⟨_, List.getElem?_eq_getElem hi'⟩
        obtain ⟨p, us, c2, c3, c1⟩ := (hi.mono L1).ix ha
        have hd : decide ((i : Int) < (inner.length : Int)) = true := decide_eq_true (by omega)
        have w2 : IntKind.i64.wrap ((i : Int) + 1) = ((i + 1 : Nat) : Int) := by rw [wrapS] <;> omega
        have w3 : IntKind.i64.wrap ((IntKind.i64.wrap ((outer.length : Int) + (i : Int))) + 1) = ((outer.length + (i + 1) : Nat) : Int) := by
          have w4 : IntKind.i64.wrap ((outer.length : Int) + (i : Int)) = ((outer.length + i : Nat) : Int) := by rw [wrapS] <;> omega
          rw [w4, wrapS] <;> omega
        unfold S.skolemref1_place.b1
        rw [f2, g2, hi.len]
        simp only [hd, cond_true, w2]
        rw [f2, g2, show ixA σ1 vi 1 = ixA σ1 vi Vw.int.sz from rfl, c1 (Hle.refl _), ld_i c2 c3]
        by_cases hav : a = v
        · subst hav
          have := place_hit ha h0
          refine .inr ⟨.inr ((outer.length + (i + 1) : Nat) : Int), by simp only [beq_self_eq_true, cond_true]; rw [f1, g1, ho.len, w3], .inr ⟨by rw [this], by omega⟩⟩
        · have : (a == v) = false := by simpa using hav
          exact .inl ⟨_, by simp only [this, cond_false], rfl, place_miss ha hav h0⟩)
      (fun x hI => by
        obtain ⟨rfl, h0⟩ := hI
        rw [List.take_length] at h0
        refine ⟨.inl (), ?_, .inl ⟨rfl, h0⟩⟩
        unfold S.skolemref1_place.b1
        have hd : decide ((inner.length : Int) < (inner.length : Int)) = false := by simp
        rw [f2, g2, hi.len]; simp only [hd, cond_false]) ⟨rfl, by simp [place]⟩
    rw [e2, place_append_zero h0]
    rcases hr2 with ⟨rfl, h3⟩ | ⟨rfl, h3⟩
    · rw [if_pos h3]; rfl
    · rw [if_neg h3]; rfl
  · rw [place_append_pos h0]
end Go.Proofs.YtgneblbblihaoaaDoor.A
