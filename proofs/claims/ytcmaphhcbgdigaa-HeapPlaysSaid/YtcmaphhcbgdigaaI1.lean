/- HeapPushes: the plain law. -/
import Derived.Test.YtcmaphhcbgdigaaI0
set_option linter.all false
namespace Go.Proofs.Ytcmaphhcbgdigaa.A
open Go

theorem number_eq {n b : Int} (hb : 0 < b) (hb2 : b < 1000000) (σ : Heap) : ∃ r : Nat, S.skolemworld_Number n b σ = some (r : Int) ∧ (r : Int) < b := by
  have h1 : Int.tmod n b < b := Int.tmod_lt_of_pos _ hb
  have h2 : -b < Int.tmod n b := by have := Int.tmod_lt_of_pos (-n) hb; rw [Int.neg_tmod] at this; omega
  unfold S.skolemworld_Number
  rw [if_neg (by omega)]
  by_cases h : Int.tmod n b < 0
  · refine ⟨(Int.tmod n b + b).toNat, ?_, by omega⟩
    rw [decide_eq_true h, cond_true]
    simp only [Option.bind_some]
    rw [wrap_small (by omega) (by omega)]; congr 1; omega
  · refine ⟨(Int.tmod n b).toNat, ?_, by omega⟩
    rw [decide_eq_false h, cond_false]
    simp only [Option.bind_some]
    congr 1; omega

theorem cutV_nat {n : Nat} (h : n ≤ 4000) : cutV (n : Int) = n := by unfold cutV; split <;> omega

theorem first_eq (σ : Heap) : ∃ σ', S.skolemlaw14_first σ = some (true, σ') ∧ σ.next ≤ σ'.next ∧ ∀ l, l < σ.next → σ'.get l = σ.get l := by
  obtain ⟨σ1, lh, F, st, e1, H1, s1, m1⟩ := new_eq σ 1
  have hN := m1.N; have hm := m1.m
  have hc : cutV 1 = 1 := cutV_nat (n := 1) (by omega)
  rw [hc] at hN hm
  obtain ⟨σ2, st2, e2, H2, s2, t2⟩ := pop_zero H1 (by omega)
  have h0 := H1.wf.hs 0 (by omega)
  have hv : st.hs 0 = 1 := by omega
  have ss := s1.trans s2
  refine ⟨σ2, ?_, ss.next, fun l hl => ss.get l (fun e => e) hl⟩
  unfold S.skolemlaw14_first
  rw [e1]
  simp only [Option.bind_some, eqP, cond_false]
  rw [e2]
  simp only [Option.bind_some, cond_true, hv]
  rfl

/-- What alone has the greatest score stands first. -/
theorem top_one {st : HS} (w : st.WF) (ho : st.HO) {v : Nat} (hv : v < st.N) (hp : 0 < st.pl v) (h : ∀ x, x < st.N → x ≠ v → st.sc x < st.sc v) : st.hs 0 = v := by
  obtain ⟨i, hi, e, _⟩ := w.in hv hp
  have h0 := w.hs 0 (by omega)
  have := nah_sc (ho.top i hi)
  rw [e] at this
  apply Classical.byContradiction
  intro hne
  have := h _ h0.2.1 hne
  omega

set_option maxHeartbeats 2000000 in
theorem pushes_plain (n b v : Int) : ∃ σ', S.skolemlaw14_HeapPushes n b v ⟨0, fun _ => none⟩ = some (true, σ') := by
  obtain ⟨σ1, e1, _⟩ := first_eq ⟨0, fun _ => none⟩
  unfold S.skolemlaw14_HeapPushes
  rw [e1]
  simp only [Option.bind_some, Bool.not_true, cond_false, cond_true]
  obtain ⟨n', en, hn⟩ := number_eq (n := n) (b := 20) (by omega) (by omega) σ1
  obtain ⟨b', eb, hb⟩ := number_eq (n := b) (b := 100) (by omega) (by omega) σ1
  rw [en, eb]
  simp only [Option.bind_some]
  have wn : IntKind.i64.wrap ((n' : Int) + 1) = ((n' + 1 : Nat) : Int) := by rw [wrap_small (by omega) (by omega)]; omega
  have wb : IntKind.i64.wrap ((b' : Int) + 1) = ((b' + 1 : Nat) : Int) := by rw [wrap_small (by omega) (by omega)]; omega
  rw [wn, wb]
  obtain ⟨v', ev, hv⟩ := number_eq (n := v) (b := ((n' + 1 : Nat) : Int)) (by omega) (by omega) σ1
  rw [ev]
  simp only [Option.bind_some]
  have wv : IntKind.i64.wrap ((v' : Int) + 1) = ((v' + 1 : Nat) : Int) := by rw [wrap_small (by omega) (by omega)]; omega
  rw [wv]
  generalize hN : n' + 1 = N at *
  generalize hB : b' + 1 = B at *
  generalize hV : v' + 1 = V at *
  have w5 : IntKind.i64.wrap ((B : Int) + 5) = (B : Int) + 5 := wrap_small (by omega) (by omega)
  have w1 : IntKind.i64.wrap ((N : Int) - 1) = ((N - 1 : Nat) : Int) := by rw [wrap_small (by omega) (by omega)]; omega
  have w2 : IntKind.i64.wrap ((N : Int) + 2) = ((N + 2 : Nat) : Int) := by rw [wrap_small (by omega) (by omega)]; omega
  have w3 : IntKind.i64.wrap ((N : Int) + 3) = ((N + 3 : Nat) : Int) := by rw [wrap_small (by omega) (by omega)]; omega
  have w4 : IntKind.i64.wrap ((N : Int) + 4) = ((N + 4 : Nat) : Int) := by rw [wrap_small (by omega) (by omega)]; omega
  rw [w5, w1, w2, w3, w4]
  -- a new heap
  obtain ⟨σ2, lh, F2, s2, e2, H2, -, m2⟩ := new_eq σ1 N
  rw [cutV_nat (by omega)] at m2
  have N2 := m2.N; have c2 := m2.m
  -- more
  obtain ⟨σ3, s3, e3, H3, -, b3⟩ := bump_yes H2 (v := V) (by omega) (by omega) B
  have sc2 : s2.sc V = 0 := m2.sc V (by omega)
  have v3 : bumped (s2.sc V) B = B := by rw [sc2]; unfold bumped; rw [Int.zero_add, clampBy_id (by omega) (by omega), clampSc_id (by omega) (by omega)]
  rw [v3] at e3 b3
  have N3 := b3.N; have c3 := b3.m
  have p3 : 0 < s3.pl V := (b3.pl V).2 ((m2.pl V (by omega)).2 (by omega))
  have sc3 : ∀ x, x < s3.N → x ≠ V → s3.sc x = 0 := fun x hx ne => by rw [b3.sc, upd_ne _ _ ne]; exact m2.sc x (by omega)
  have sc3v : s3.sc V = B := by rw [b3.sc, upd_at]
  have e4 := push_no H3 (v := (V : Int)) (by simp; omega)
  -- out
  have top3 : s3.hs 0 = V := top_one H3.wf H3.ho (by omega) p3 fun x hx ne => by rw [sc3 x hx ne, sc3v]; omega
  obtain ⟨σ5, s5, e5, H5, -, t5⟩ := pop_zero H3 (by omega)
  rw [top3] at e5 t5
  have N5 := t5.N; have c5 := t5.m
  have p5 : s5.pl V = 0 := by have := (t5.pl V).1; rcases Nat.eq_zero_or_pos (s5.pl V) with h | h
                              · exact h
                              · exact absurd rfl ((t5.pl V).1 h).2
  have e6 := has_eq H5 (V : Int)
  have e7 := len_eq H5
  obtain ⟨σ8, s8, e8, H8, -, b8⟩ := bump_yes H5 (v := V) (by omega) (by omega) 5
  have v8 : bumped (s5.sc V) 5 = B + 5 := by rw [t5.sc, sc3v]; unfold bumped; rw [clampBy_id (by omega) (by omega), clampSc_id (by omega) (by omega)]
  rw [v8] at e8 b8
  have N8 := b8.N; have c8 := b8.m
  have p8 : s8.pl V = 0 := by have := b8.pl V; omega
  -- in again
  obtain ⟨σ9, F9, s9, e9, H9, -, q9⟩ := push_yes H8 (v := V) (by omega) (by omega) p8
  have N9 := q9.N; have c9 := q9.m
  have p9 : 0 < s9.pl V := (q9.pl V).2 (.inr rfl)
  have e10 := push_no H9 (v := (V : Int)) (by simp; omega)
  -- grown
  obtain ⟨σ11, F11, s11, e11, H11, -, g11⟩ := grow_eq H9 ((N + 3 : Nat) : Int)
  rw [cutV_nat (by omega)] at g11
  have N11 := g11.N; have c11 := g11.m
  have N11' : s11.N = N + 4 := by omega
  have sc11v : s11.sc V = B + 5 := by rw [g11.old V (by omega), q9.sc, b8.sc, upd_at]
  have sc11 : ∀ x, x < s11.N → x ≠ V → s11.sc x = 0 := fun x hx ne => by
    by_cases h : x < s9.N
    · rw [g11.old x h, q9.sc, b8.sc, upd_ne _ _ ne, t5.sc]; exact sc3 x (by omega) ne
    · exact g11.fresh x (by omega) hx
  have p11 : 0 < s11.pl V := (g11.pl V (by omega)).2 (.inr p9)
  have top11 : s11.hs 0 = V := top_one H11.wf H11.ho (by omega) p11 fun x hx ne => by rw [sc11 x hx ne, sc11v]; omega
  obtain ⟨σ12, F12, s12, u, e12, hu, H12, -, t12⟩ := pop_tie H11 (tie := 7) (by omega) (by omega) (by omega)
  have hu' : u = V := by
    have := List.mem_of_getElem? hu
    unfold tops at this
    rw [List.mem_filter, List.mem_range, decide_eq_true_iff, top11] at this
    apply Classical.byContradiction
    intro ne
    have := sc11 u this.1 ne
    omega
  subst hu'
  have N12 := t12.N; have c12 := t12.m
  have e13 := len_eq H12
  have e14 := has_eq H12 ((N + 3 : Nat) : Int)
  have e15 := score_eq H12 ((N + 3 : Nat) : Int)
  have e16 := push_no H12 (v := ((N + 4 : Nat) : Int)) (by omega)
  have e17 := score_eq H12 0
  have hlast : 0 < s12.pl (N + 3) := (t12.pl _).2 ⟨(g11.pl _ (by omega)).2 (.inl (by omega)), by omega⟩
  have hsc : s12.sc (N + 3) = 0 := by rw [t12.sc]; exact sc11 _ (by omega) (by omega)
  rw [e2]
  simp only [Option.bind_some, eqP, cond_false]
  rw [e3]
  simp only [Option.bind_some, bne_self_eq_false, cond_false]
  rw [e4]
  simp only [Option.bind_some, cond_false]
  rw [e5]
  simp only [Option.bind_some, Bool.not_true, bne_self_eq_false, cond_false]
  rw [e6]
  have d6 : decide (0 < (u : Int) ∧ (u : Int) < s5.N ∧ 0 < s5.pl (u : Int).toNat) = false := decide_eq_false (fun e => by have h := e.2.2; rw [Int.toNat_natCast, p5] at h; exact absurd h (Nat.lt_irrefl 0))
  simp only [Option.bind_some, d6, cond_false]
  rw [e7]
  have d7 : ((s5.m : Int) != ((N - 1 : Nat) : Int)) = false := by simp; omega
  simp only [Option.bind_some, d7, cond_false]
  rw [e8]
  simp only [Option.bind_some, bne_self_eq_false, cond_false]
  rw [e9]
  simp only [Option.bind_some]
  rw [e10]
  simp only [Option.bind_some]
  rw [e11]
  simp only [Option.bind_some]
  rw [e12]
  simp only [Option.bind_some, Bool.not_false, cond_true, beq_self_eq_true]
  rw [e13]
  have d13 : ((s12.m : Int) == ((N + 2 : Nat) : Int)) = true := by simp; omega
  simp only [Option.bind_some, d13, cond_true]
  rw [e14]
  have d14 : decide (0 < ((N + 3 : Nat) : Int) ∧ ((N + 3 : Nat) : Int) < s12.N ∧ 0 < s12.pl ((N + 3 : Nat) : Int).toNat) = true := decide_eq_true ⟨by omega, by omega, by rw [Int.toNat_natCast]; exact hlast⟩
  simp only [Option.bind_some, d14, cond_true]
  rw [e15, if_pos ⟨by omega, by omega⟩]
  have d15 : s12.sc ((N + 3 : Nat) : Int).toNat = 0 := by rw [Int.toNat_natCast]; exact hsc
  simp only [Option.bind_some, d15, beq_self_eq_true, cond_true]
  rw [e16]
  simp only [Option.bind_some, Bool.not_false, cond_true]
  rw [e17]
  exact ⟨_, rfl⟩
end Go.Proofs.Ytcmaphhcbgdigaa.A
