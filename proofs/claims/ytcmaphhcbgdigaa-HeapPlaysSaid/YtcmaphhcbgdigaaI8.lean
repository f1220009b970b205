/- HeapPlays: the plain law, its loop. -/
import Derived.Test.YtcmaphhcbgdigaaI7
set_option linter.all false
namespace Go.Proofs.Ytcmaphhcbgdigaa.A
open Go

/-- What the law compares, once something is done. -/
theorem plays_check {b0 : Nat} {σ : Heap} {lh lx : Nat} {F G : Nat → Prop} {st : HS} {N : Nat} {sc : Nat → Int} {inn : Nat → Bool} (B : Both b0 σ lh lx F G st N sc inn) (p8 : Int) :
  ((cond (decide (p8 > 0)) (
  nilck (.ptr lx 0) (
  fld (.ptr lx 0) 1 fun a51 =>
  ld σ a51 (.V) fun v52 =>
  lenV v52 fun n53 =>
  cond (decide (p8 < n53)) (
  nilck (.ptr lx 0) (
  fld (.ptr lx 0) 1 fun a54 =>
  ld σ a54 (.V) fun v55 =>
  ixA σ v55 1 p8 fun a56 =>
  ld σ a56 (.B) fun b57 =>
  some b57))
  (some false)))
  (some false)).bind fun r58 =>
  (cond (decide (p8 > 0)) (
  nilck (.ptr lx 0) (
  fld (.ptr lx 0) 0 fun a59 =>
  ld σ a59 (.V) fun v60 =>
  lenV v60 fun n61 =>
  some (decide (p8 < n61))))
  (some false)).bind fun r62 =>
  (cond r62 (
  nilck (.ptr lx 0) (
  fld (.ptr lx 0) 0 fun a63 =>
  ld σ a63 (.V) fun v64 =>
  ixA σ v64 1 p8 fun a65 =>
  ld σ a65 (.I .i64) fun n66 =>
  some n66))
  (some 0)).bind fun r67 =>
  (cond (!true) (
  some true)
  ((S.heap_Heap_Len (.ptr lh 0) σ).bind fun r68 =>
  (S.skolemref8_Heap_Len (.ptr lx 0) σ).bind fun r69 =>
  cond (r68 != r69) (
  some true)
  ((S.heap_Heap_Has (.ptr lh 0) p8 σ).bind fun r70 =>
  cond (!(r70 == r58)) (
  some true)
  ((S.heap_Heap_Score (.ptr lh 0) p8 σ).bind fun r71 =>
  some (r71 != r67))))).bind fun r72 =>
  cond r72 (
  some (.inr false, σ))
  (some (.inl (), σ)) : Option ((Unit ⊕ Bool) × Heap)) = some (.inl (), σ) := by
  obtain ⟨rs, ri, A, hG⟩ := B.r.at'
  have hN := B.c.N
  rw [len_eq B.p, rlen_eq B.r, B.c.count B.p.wf, has_eq B.p, score_eq B.p]
  simp only [Bool.not_true, cond_false, Option.bind_some, bne_self_eq_false, nilck, fld, A.l0, A.l1, lenV]
  by_cases h0 : p8 > 0
  · rw [decide_eq_true h0, cond_true]
    by_cases hl : p8 < N
    · obtain ⟨k, rfl⟩ := Int.eq_ofNat_of_zero_le (show 0 ≤ p8 by omega)
      rw [decide_eq_true hl, cond_true, ix_one A.i (by omega), ld_tabB A.i (by omega)]
      simp only [Option.bind_some, cond_true]
      rw [ix_one A.s (by omega), ld_arr A.s (by omega)]
      simp only [Option.bind_some, Int.toNat_natCast]
      have hp := B.c.pl k (by omega)
      have d : decide (0 < (k : Int) ∧ (k : Int) < st.N ∧ 0 < st.pl k) = inn k := by
        cases hi : inn k with
        | true => rw [hi] at hp; exact decide_eq_true ⟨by omega, by omega, hp.2 ⟨by omega, rfl⟩⟩
        | false => rw [hi] at hp; exact decide_eq_false fun e => absurd (hp.1 e.2.2).2 (by simp)
      rw [d, if_pos ⟨by omega, by omega⟩, B.c.sc k (by omega) (by omega)]
      simp
    · have d : decide (0 < p8 ∧ p8 < st.N ∧ 0 < st.pl p8.toNat) = false := decide_eq_false fun e => by omega
      rw [decide_eq_false hl, d, if_neg (fun e => by omega)]
      simp
  · have d : decide (0 < p8 ∧ p8 < st.N ∧ 0 < st.pl p8.toNat) = false := decide_eq_false fun e => by omega
    rw [decide_eq_false h0, d, if_neg (fun e => by omega)]
    simp

theorem fld_ptr {Rt : Type} (l o k : Nat) (K : AVal → Option Rt) : fld (.ptr l o) k K = K (.ptr l (o + k)) := rfl

set_option maxHeartbeats 1000000 in
theorem plays_loop {b0 : Nat} {lh lx : Nat} {v : AVal} {xs : List (Int × Int × Int)} {ask : Int} {ok : Bool} (hlen : xs.length ≤ 100)
    (hr : ∀ x ∈ xs, (-9223372036854775808 ≤ x.2.2 ∧ x.2.2 ≤ 9223372036854775807)) : ∀ (n i : Nat) (σ : Heap) (F G : Nat → Prop) (st : HS) (N : Nat) (sc : Nat → Int) (inn : Nat → Bool), i + n = xs.length → IsDos b0 σ v xs → Both b0 σ lh lx F G st N sc inn →
    ∃ σ', loopW (S.skolemlaw14_HeapPlays.b0 v ask ok (.ptr lh 0) (.ptr lx 0)) (i : Int) σ = some (.inl (), σ')
  | 0, i, σ, F, G, st, N, sc, inn, hn, hv, B => by
    refine ⟨σ, loopW_stop ?_⟩
    unfold S.skolemlaw14_HeapPlays.b0
    rw [hv.len, decide_eq_false (by omega), cond_false]
  | n + 1, i, σ, F, G, st, N, sc, inn, hn, hv, B => by
    have hi : i < xs.length := by omega
    obtain ⟨l, hl, rfl, hat⟩ := hv.at hi
    obtain ⟨r1, r2, r3, r4⟩ := hat σ rfl
    have hx := hr xs[i] (List.getElem_mem hi)
    have wi : IntKind.i64.wrap ((i : Int) + 1) = ((i + 1 : Nat) : Int) := by rw [wrap_small (by omega) (by omega)]; omega
    -- a round
    have round : ∃ σ' F' G' st' N' sc' inn', S.skolemlaw14_HeapPlays.b0 (.sl l 0 xs.length none) ask ok (.ptr lh 0) (.ptr lx 0) (i : Int) σ = some (.inl ((i + 1 : Nat) : Int), σ') ∧ Both b0 σ' lh lx F' G' st' N' sc' inn' ∧ ∀ l, l < b0 → σ'.get l = σ.get l := by
      unfold S.skolemlaw14_HeapPlays.b0
      rw [hv.len, decide_eq_true (by omega), cond_true, r1]
      rw [fld_ptr, r3, r1, fld_ptr, r2]
      by_cases k1 : xs[i].1 = 1
      · have d1 : (xs[i].1 == 1) = true := by simpa using k1
        obtain ⟨σ', F', G', st', N', sc', inn', e, B', kk⟩ := goes_push B xs[i].2.1
        refine ⟨σ', F', G', st', N', sc', inn', ?_, B', kk⟩
        rw [d1, cond_true, e, Option.bind_some]
        rw [plays_check B' ask]
        simp only [Option.bind_some, wi]
      · have d1 : (xs[i].1 == 1) = false := by simpa using k1
        rw [d1, cond_false]
        by_cases k2 : xs[i].1 = 2
        · have d2 : (xs[i].1 == 2) = true := by simpa using k2
          obtain ⟨r, σ1, e1, kk1, σ', F', G', st', N', sc', inn', e, B', kk⟩ := goes_pop B hx
          obtain ⟨q1, q2, q3, q4⟩ := hat σ1 (kk1 l hl)
          refine ⟨σ', F', G', st', N', sc', inn', ?_, B', kk⟩
          rw [d2, cond_true, r1, fld_ptr, r4, e1, Option.bind_some, q1, fld_ptr, q4, e, Option.bind_some, plays_check B' ask]
          simp only [Option.bind_some, wi]
        · have d2 : (xs[i].1 == 2) = false := by simpa using k2
          rw [d2, cond_false]
          by_cases k3 : xs[i].1 = 3
          · have d3 : (xs[i].1 == 3) = true := by simpa using k3
            obtain ⟨r, σ1, e1, kk1, σ', F', G', st', N', sc', inn', e, B', kk⟩ := goes_bump B xs[i].2.1 hx
            obtain ⟨q1, q2, q3, q4⟩ := hat σ1 (kk1 l hl)
            refine ⟨σ', F', G', st', N', sc', inn', ?_, B', kk⟩
            rw [d3, cond_true, r1, fld_ptr, r4, e1, Option.bind_some, q1, r1, chk_true rfl, fld_ptr, q4, r4, chk_true rfl, e, Option.bind_some, plays_check B' ask]
            simp only [Option.bind_some, wi]
          · have d3 : (xs[i].1 == 3) = false := by simpa using k3
            rw [d3, cond_false]
            by_cases k4 : xs[i].1 = 4
            · have d4 : (xs[i].1 == 4) = true := by simpa using k4
              obtain ⟨σ', F', G', st', N', sc', inn', e, B', kk⟩ := goes_halve B
              refine ⟨σ', F', G', st', N', sc', inn', ?_, B', kk⟩
              rw [d4, cond_true, e, Option.bind_some, plays_check B' ask]
              simp only [Option.bind_some, wi]
            · have d4 : (xs[i].1 == 4) = false := by simpa using k4
              rw [d4, cond_false]
              obtain ⟨q, _, _⟩ := numV_eq (n := xs[i].2.2) (b := 60) (by omega) (by omega) σ
              obtain ⟨σ', F', G', st', N', sc', inn', e, B', kk⟩ := goes_grow B (numV xs[i].2.2 60)
              refine ⟨σ', F', G', st', N', sc', inn', ?_, B', kk⟩
              rw [r1, fld_ptr, r4, q, Option.bind_some, e, Option.bind_some, plays_check B' ask]
              simp only [Option.bind_some, wi]
    obtain ⟨σ1, F1, G1, st1, N1, sc1, inn1, e1, B1, kk⟩ := round
    obtain ⟨σ2, e2⟩ := plays_loop (ask := ask) (ok := ok) hlen hr n (i + 1) σ1 F1 G1 st1 N1 sc1 inn1 (by omega) (hv.keep kk) B1
    exact ⟨σ2, loopW_next e1 e2⟩

theorem plays_plain {b0 : Nat} {σ : Heap} {v : AVal} {xs : List (Int × Int × Int)} (vars ask : Int) (hv : IsDos b0 σ v xs) (hb : b0 ≤ σ.next) (hr : ∀ x ∈ xs, (-9223372036854775808 ≤ x.2.2 ∧ x.2.2 ≤ 9223372036854775807)) : ∃ σ', S.skolemlaw14_HeapPlays vars v ask σ = some (true, σ') := by
  obtain ⟨σ1, e1, n1, k1⟩ := first_eq σ
  unfold S.skolemlaw14_HeapPlays
  rw [e1]
  simp only [Option.bind_some, Bool.not_true, cond_false]
  rw [hv.len]
  by_cases h1 : xs.length > 100
  · rw [decide_eq_true (by omega)]; simp
  rw [decide_eq_false (by omega), cond_false]
  simp only [Option.bind_some]
  by_cases h2 : vars > 60
  · rw [decide_eq_true h2]; simp
  rw [decide_eq_false h2, cond_false]
  obtain ⟨σ2, lh, F, st, e2, H2, s2, m2⟩ := new_eq σ1 vars
  obtain ⟨σ3, lx, G, N, sc, inn, e3, H3, s3, hN, hsc, hin⟩ := rnew_eq σ2 vars
  have x2 := s2.next; have x3 := s3.next
  have N2 := m2.N
  have B : Both b0 σ3 lh lx F G st N sc inn := ⟨H2.keep x3 fun l h => s3.get l (fun e => e) (H2.at'.lt h), H3, ⟨by omega, fun v a b => by rw [m2.sc v b, hsc v (by omega)], fun v hv => by
      rw [m2.pl v hv]
      exact ⟨fun a => ⟨a, hin v a (by omega)⟩, fun a => a.1⟩⟩, fun l h => (s2.foot l h).elim (fun e => e.elim) fun z => by omega, fun l h => (s3.foot l h).elim (fun e => e.elim) fun z => by omega,
      fun l h e => (s3.foot l e).elim (fun e => e.elim) fun z => by have := H2.at'.lt h; omega, by omega⟩
  obtain ⟨σ4, e4⟩ := plays_loop (ask := ask) (ok := true) (by omega) hr xs.length 0 σ3 F G st N sc inn (by omega) (hv.keep fun l hl => by rw [s3.get l (fun e => e) (by omega), s2.get l (fun e => e) (by omega), k1 l (by omega)]) B
  rw [show ((0 : Nat) : Int) = 0 from rfl] at e4
  rw [e2]
  simp only [Option.bind_some]
  rw [e3]
  simp only [Option.bind_some, eqP, cond_false]
  rw [e4]
  exact ⟨_, rfl⟩
end Go.Proofs.Ytcmaphhcbgdigaa.A
