/- The program's heap: Bump. -/
import Derived.Test.YtcmaphhcbgdigaaH7
set_option linter.all false
namespace Go.Proofs.Ytcmaphhcbgdigaa.A
open Go

def clampBy (b : Int) : Int := if 1099511627776 < (if (-1099511627776) > b then (-1099511627776) else b) then 1099511627776 else (if (-1099511627776) > b then (-1099511627776) else b)
theorem clampBy_le (b : Int) : -1099511627776 ≤ clampBy b ∧ clampBy b ≤ 1099511627776 := by
  unfold clampBy; repeat' split
  all_goals omega
theorem clampBy_id {b : Int} (h : -1099511627776 ≤ b) (k : b ≤ 1099511627776) : clampBy b = b := by
  unfold clampBy; repeat' split
  all_goals omega
def clampSc (s : Int) : Int := if 1099511627776 < (if 0 > s then 0 else s) then 1099511627776 else (if 0 > s then 0 else s)
theorem clampSc_le (s : Int) : 0 ≤ clampSc s ∧ clampSc s ≤ most := by
  unfold clampSc most; repeat' split
  all_goals omega
theorem clampSc_id {s : Int} (h : 0 ≤ s) (k : s ≤ 1099511627776) : clampSc s = s := by
  unfold clampSc; repeat' split
  all_goals omega
/-- A score, with more. -/
def bumped (s b : Int) : Int := clampSc (s + clampBy b)

/-- What Bump comes to. -/
structure Bumped (st st' : HS) (v : Nat) (s : Int) : Prop where
  N : st'.N = st.N
  sc : st'.sc = upd st.sc v s
  m : st'.m = st.m
  pl : ∀ x, 0 < st'.pl x ↔ 0 < st.pl x

def HS.score (st : HS) (v : Nat) (s : Int) : HS := { st with sc := upd st.sc v s }
theorem score_wf {st : HS} (w : st.WF) (v : Nat) (s : Int) : (st.score v s).WF := ⟨w.hs, w.pl⟩
theorem score_ah {sc : Nat → Int} {v a b : Nat} {s : Int} (ha : a ≠ v) (hb : b ≠ v) (h : ¬ ah sc a b) : ¬ ah (upd sc v s) a b := by
  unfold ah at *; rw [upd_ne _ _ ha, upd_ne _ _ hb]; exact h
theorem score_out {st : HS} (w : st.WF) (ho : st.HO) {v : Nat} {s : Int} (hp : st.pl v = 0) : (st.score v s).HO := by
  intro i h1 h2
  have h2' : i < st.m := h2
  have ne : ∀ i, i < st.m → st.hs i ≠ v := fun i hi e => by have := (w.hs i hi).2.2; rw [e] at this; omega
  exact score_ah (ne _ h2') (ne _ (by omega)) (ho i h1 h2')
theorem score_off {st : HS} (w : st.WF) (ho : st.HO) {v : Nat} {s : Int} (hv : v < st.N) (hp : 0 < st.pl v) : (st.score v s).Off (st.pl v - 1) := by
  obtain ⟨a, b⟩ := w.pl v hv hp
  have ne : ∀ i, i < st.m → i ≠ st.pl v - 1 → st.hs i ≠ v := fun i hi h e => by have := (w.hs i hi).2.2; rw [e] at this; omega
  refine ⟨score_wf w v s, by show _ < st.m; omega, fun i h1 h2 h3 h4 => ?_, fun i h1 h2 h3 h4 => ?_⟩
  · have h2' : i < st.m := h2
    exact score_ah (ne _ h2' h3) (ne _ (by omega) h4) (ho i h1 h2')
  · have h2' : i < st.m := h2
    refine score_ah (ne _ h2' (by omega)) (ne _ (by omega) (by omega)) ?_
    have a := ho i h1 h2'; have b := ho (st.pl v - 1) h4 (by omega)
    unfold HS.up at a; rw [h3] at a
    exact nah_trans a b

section
variable {σ : Heap} {lh : Nat} {F : Nat → Prop} {st : HS}

theorem bump_no (H : Hp σ lh F st) {v : Int} (h : ¬ (0 < v ∧ v < st.N)) (b : Int) : S.heap_Heap_Bump (.ptr lh 0) v b σ = some (0, σ) := by
  unfold S.heap_Heap_Bump
  rw [is_eq H]; simp [h]

theorem bump_yes (H : Hp σ lh F st) {v : Nat} (h0 : 0 < v) (hv : v < st.N) (b : Int) :
    ∃ σ' st', S.heap_Heap_Bump (.ptr lh 0) v b σ = some (bumped (st.sc v) b, σ') ∧ Hp σ' lh F st' ∧ Step σ σ' F F ∧ Bumped st st' v (bumped (st.sc v) b) := by
  obtain ⟨ls, lp, vb, c, hl, f1, f2, f3⟩ := H.at'.core
  obtain ⟨n1, n2, n4⟩ := c.ne
  have hsc := H.sc v hv
  unfold most at hsc
  have hcb := clampBy_le b
  have hbig := c.big
  unfold S.heap_Heap_Bump
  rw [is_core c]
  rw [decide_eq_true (show (0 : Int) < v ∧ (v : Int) < st.N from ⟨by omega, by omega⟩)]
  simp only [Option.bind_some, Bool.not_true, cond_false, nilck, fld, c.l0]
  rw [ix_one c.s hv, ld_arr c.s hv]
  have ecb : (if 1099511627776 < (if (-1099511627776) > b then (-1099511627776) else b) then 1099511627776 else (if (-1099511627776) > b then (-1099511627776) else b)) = clampBy b := rfl
  rw [ecb, wrap_small (n := st.sc v + clampBy b) (by omega) (by omega)]
  have esc : (if 1099511627776 < (if 0 > (st.sc v + clampBy b) then 0 else (st.sc v + clampBy b)) then 1099511627776 else (if 0 > (st.sc v + clampBy b) then 0 else (st.sc v + clampBy b))) = bumped (st.sc v) b := rfl
  rw [esc, ix_one c.s hv, st_arr c.s hv]
  generalize hσ1 : σ.set ls _ = σ1
  have g1 : ∀ l, l ≠ ls → σ1.get l = σ.get l := fun l a => by rw [← hσ1, set_get, if_neg a]
  have x1 : σ1.next = σ.next := by rw [← hσ1]; rfl
  have s1 : σ1.get ls = some (.cells .rw 1 (tabI st.N (upd st.sc v (bumped (st.sc v) b)))) := by rw [← hσ1, set_get, if_pos rfl]
  have st1 : Step σ σ1 F F := ⟨Nat.le_of_eq x1.symm, fun l hl _ => g1 l (fun e => hl (e ▸ f2)), fun l h => .inl h⟩
  have H1 : HIn σ1 lh F (st.score v (bumped (st.sc v) b)) := by
    rcases H.at' with ⟨ls', lp', lb, M, G, rfl⟩ | ⟨ls', lp', G, hm, rfl⟩
    · have e := c.h.symm.trans G.h
      simp only [Option.some.injEq, AObj.cells.injEq, List.cons.injEq, AVal.sl.injEq, true_and, and_true] at e
      obtain ⟨rfl, rfl, rfl⟩ := e
      obtain ⟨_, _, n3, _, n5, n6⟩ := G.ne
      exact .inl ⟨_, _, lb, M, ⟨(g1 _ n1).trans G.h, s1, (g1 _ (Ne.symm n4)).trans G.p, (g1 _ (Ne.symm n5)).trans G.b, G.mM, G.mN, G.big, G.ne, by rw [x1]; exact G.lt⟩, rfl⟩
    · have e := c.h.symm.trans G.h
      simp only [Option.some.injEq, AObj.cells.injEq, List.cons.injEq, AVal.sl.injEq, true_and, and_true] at e
      obtain ⟨rfl, rfl, rfl⟩ := e
      exact .inr ⟨_, _, ⟨(g1 _ n1).trans G.h, s1, (g1 _ (Ne.symm n4)).trans G.p, G.big, G.ne, by rw [x1]; exact G.lt⟩, hm, rfl⟩
  have scok : ∀ x, x < st.N → 0 ≤ upd st.sc v (bumped (st.sc v) b) x ∧ upd st.sc v (bumped (st.sc v) b) x ≤ most := by
    intro x hx; unfold upd; split
    · exact clampSc_le _
    · exact H.sc x hx
  have c1 : HCore σ1 lh ls lp vb (st.score v (bumped (st.sc v) b)) := ⟨(g1 _ n1).trans c.h, s1, (g1 _ (Ne.symm n4)).trans c.p, c.big, c.ne, by rw [x1]; exact c.lt⟩
  rw [c1.l1]
  have p1 : σ1.get lp = some (.cells .rw 1 (tabI st.N (nat st.pl))) := c1.p
  show ∃ σ' st', ixA σ1 (.sl lp 0 st.N none) 1 (v : Int) _ = _ ∧ _
  rw [ix_one p1 hv, ld_arr p1 hv, show nat st.pl v = ((st.pl v : Nat) : Int) from rfl]
  by_cases hp : 0 < st.pl v
  · have hple := (H.wf.pl v hv hp).1
    have e6 : IntKind.i64.wrap (((st.pl v : Nat) : Int) - 1) = ((st.pl v - 1 : Nat) : Int) := by
      rcases c.big with _
      have := H.wf.lt
      rw [wrap_small (by omega) (by omega)]; omega
    rw [e6, decide_eq_true (by omega), cond_true]
    rcases H1 with ⟨ls', lp', lb, M, H1, hF⟩ | ⟨_, _, _, hm, _⟩
    · have e := c1.h.symm.trans H1.h
      simp only [Option.some.injEq, AObj.cells.injEq, List.cons.injEq, AVal.sl.injEq, true_and, and_true] at e
      obtain ⟨rfl, rfl, rfl⟩ := e
      have hN := H1.mN
      obtain ⟨σ2, st2, e2, H2, c2, lk2, w2, _, k', hk', hh2, dn2⟩ := up_eq H1 (score_off H.wf H.ho (s := bumped (st.sc v) b) hv hp)
      have hh2' : st2.hs k' = v := hh2.trans (H.wf.pl v hv hp).2
      have pl2 : st2.pl v = k' + 1 := by have := (w2.hs k' hk').2.2; rw [hh2'] at this; exact this
      obtain ⟨σ3, st3, e3, H3, c3, lk3, w3, o3⟩ := down_eq H2 dn2
      have N2 : st2.N = st.N := lk2.1.symm
      have N3 : st3.N = st.N := lk3.1.symm.trans N2
      have sc3 : st3.sc = upd st.sc v (bumped (st.sc v) b) := lk3.2.2.1.symm.trans lk2.2.2.1.symm
      have m2 : st2.m = st.m := lk2.2.1.symm
      refine ⟨σ3, st3, ?_, ⟨w3, fun i h1 h2 => o3 i h1 h2 (Nat.zero_le _), by rw [N3, sc3]; exact scok, by rw [N3]; exact H.n1, by rw [N3]; exact H.n2, .inl ⟨_, _, _, _, H3, hF⟩⟩, ?_, ⟨N3, sc3, lk3.2.1.symm.trans m2, fun x => (lk3.2.2.2 x).trans (lk2.2.2.2 x)⟩⟩
      · rw [e2]
        simp only [Option.bind_some]
        rw [H2.l1, ix_one H2.p (by omega), ld_arr H2.p (by omega)]
        have e7 : IntKind.i64.wrap (nat st2.pl v - 1) = (k' : Int) := by
          show IntKind.i64.wrap (((st2.pl v : Nat) : Int) - 1) = _
          have hb : st.N ≤ 5000 := H1.big
          have hN' : st.m ≤ st.N := hN
          rw [pl2, wrap_small (by omega) (by omega)]; omega
        rw [e7, e3]
        simp only [Option.bind_some]
        rw [H3.l0, ix_one H3.s (by omega), ld_arr H3.s (by omega), sc3, upd_at]
      · subst hF; exact st1.trans (c2.step.trans c3.step)
    · have : st.m = 0 := hm
      omega
  · have hp0 : st.pl v = 0 := by omega
    have e6 : IntKind.i64.wrap (((st.pl v : Nat) : Int) - 1) = -1 := by rw [hp0, wrap_small (by omega) (by omega)]; omega
    rw [e6, decide_eq_false (by omega), cond_false]
    refine ⟨σ1, _, ?_, ⟨score_wf H.wf _ _, score_out H.wf H.ho hp0, scok, H.n1, H.n2, H1⟩, st1, ⟨rfl, rfl, rfl, fun x => Iff.rfl⟩⟩
    simp only [Option.bind_some]
    rw [c1.l0]
    show ixA σ1 (.sl ls 0 st.N none) 1 (v : Int) _ = _
    rw [ix_one s1 hv, ld_arr s1 hv, upd_at]
end
end Go.Proofs.Ytcmaphhcbgdigaa.A
