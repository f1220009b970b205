/- The program's heap: Halve. -/
import Derived.Test.YtcmaphhcbgdigaaI3
set_option linter.all false
namespace Go.Proofs.Ytcmaphhcbgdigaa.A
open Go

theorem HIn.scores {σ : Heap} {lh ls lp : Nat} {vb : AVal} {F : Nat → Prop} {st : HS} (H : HIn σ lh F st) (c : HCore σ lh ls lp vb st) (sc' : Nat → Int) :
    HIn (σ.set ls (.cells .rw 1 (tabI st.N sc'))) lh F { st with sc := sc' } ∧ HCore (σ.set ls (.cells .rw 1 (tabI st.N sc'))) lh ls lp vb { st with sc := sc' } ∧ Step σ (σ.set ls (.cells .rw 1 (tabI st.N sc'))) F F := by
  obtain ⟨n1, n2, n4⟩ := c.ne
  generalize hσ1 : σ.set ls (.cells .rw 1 (tabI st.N sc')) = σ1
  have g1 : ∀ l, l ≠ ls → σ1.get l = σ.get l := fun l a => by rw [← hσ1, set_get, if_neg a]
  have x1 : σ1.next = σ.next := by rw [← hσ1]; rfl
  have s1 : σ1.get ls = some (.cells .rw 1 (tabI st.N sc')) := by rw [← hσ1, set_get, if_pos rfl]
  have c1 : HCore σ1 lh ls lp vb { st with sc := sc' } := ⟨(g1 _ n1).trans c.h, s1, (g1 _ (Ne.symm n4)).trans c.p, c.big, c.ne, by rw [x1]; exact c.lt⟩
  rcases H with ⟨ls', lp', lb, M, G, rfl⟩ | ⟨ls', lp', G, hm, rfl⟩
  · have e := c.h.symm.trans G.h
    simp only [Option.some.injEq, AObj.cells.injEq, List.cons.injEq, AVal.sl.injEq, true_and, and_true] at e
    obtain ⟨rfl, rfl, rfl⟩ := e
    obtain ⟨_, _, n3, _, n5, n6⟩ := G.ne
    exact ⟨.inl ⟨_, _, lb, M, ⟨(g1 _ n1).trans G.h, s1, (g1 _ (Ne.symm n4)).trans G.p, (g1 _ (Ne.symm n5)).trans G.b, G.mM, G.mN, G.big, G.ne, by rw [x1]; exact G.lt⟩, rfl⟩, c1,
      ⟨Nat.le_of_eq x1.symm, fun l hl _ => g1 l (fun e => hl (.inr (.inl e))), fun l h => .inl h⟩⟩
  · have e := c.h.symm.trans G.h
    simp only [Option.some.injEq, AObj.cells.injEq, List.cons.injEq, AVal.sl.injEq, true_and, and_true] at e
    obtain ⟨rfl, rfl, rfl⟩ := e
    exact ⟨.inr ⟨_, _, ⟨(g1 _ n1).trans G.h, s1, (g1 _ (Ne.symm n4)).trans G.p, G.big, G.ne, by rw [x1]; exact G.lt⟩, hm, rfl⟩, c1,
      ⟨Nat.le_of_eq x1.symm, fun l hl _ => g1 l (fun e => hl (.inr (.inl e))), fun l h => .inl h⟩⟩

/-- What Halve comes to. -/
structure Halved (st st' : HS) : Prop where
  N : st'.N = st.N
  sc : ∀ v, v < st.N → st'.sc v = Int.tdiv (st.sc v) 2
  m : st'.m = st.m
  pl : ∀ x, 0 < st'.pl x ↔ 0 < st.pl x

theorem halve_b0 {lh : Nat} {F : Nat → Prop} (sc0 : Nat → Int) (N : Nat) (hsc : ∀ v, v < N → 0 ≤ sc0 v ∧ sc0 v ≤ most) : ∀ (n i : Nat) (σ : Heap) (st : HS) (ls lp : Nat) (vb : AVal), i + n = N → HIn σ lh F st → HCore σ lh ls lp vb st → st.N = N →
    (∀ v, v < N → st.sc v = if v < i then Int.tdiv (sc0 v) 2 else sc0 v) →
    ∃ σ' sc', loopW (S.heap_Heap_Halve.b0 (.ptr lh 0) (N : Int)) (i : Int) σ = some ((), σ') ∧ HIn σ' lh F { st with sc := sc' } ∧ HCore σ' lh ls lp vb { st with sc := sc' } ∧ Step σ σ' F F ∧ ∀ v, v < N → sc' v = Int.tdiv (sc0 v) 2
  | 0, i, σ, st, ls, lp, vb, hn, H, c, hN, h => by
    refine ⟨σ, st.sc, loopW_stop ?_, H, c, Step.refl .., fun v hv => by rw [h v hv, if_pos (by omega)]⟩
    unfold S.heap_Heap_Halve.b0
    rw [decide_eq_false (by omega), cond_false]
  | n + 1, i, σ, st, ls, lp, vb, hn, H, c, hN, h => by
    have hi : i < st.N := by omega
    have hb := c.big
    have hs := h i (by omega)
    rw [if_neg (by omega)] at hs
    have hr := hsc i (by omega)
    unfold most at hr
    have ht : 0 ≤ Int.tdiv (sc0 i) 2 ∧ Int.tdiv (sc0 i) 2 ≤ sc0 i := by rw [Int.tdiv_eq_ediv_of_nonneg hr.1]; omega
    obtain ⟨H1, c1, s1⟩ := H.scores c (upd st.sc i (Int.tdiv (sc0 i) 2))
    obtain ⟨σ2, sc2, e2, H2, c2, s2, r2⟩ := halve_b0 sc0 N hsc n (i + 1) _ { st with sc := upd st.sc i (Int.tdiv (sc0 i) 2) } ls lp vb (by omega) H1 c1 hN (fun v hv => by
      show upd st.sc i _ v = _
      unfold upd
      have := h v hv
      split
      · rename_i e; subst e; rw [if_pos (by omega)]
      · rw [this]; split
        · rw [if_pos (by omega)]
        · rw [if_neg (by omega)])
    refine ⟨σ2, sc2, loopW_next ?_ e2, H2, c2, s1.trans s2, r2⟩
    unfold S.heap_Heap_Halve.b0
    have wi : IntKind.i64.wrap ((i : Int) + 1) = ((i + 1 : Nat) : Int) := by rw [wrap_small (by omega) (by omega)]; omega
    rw [decide_eq_true (by omega), cond_true]
    simp only [nilck, fld, c.l0]
    rw [ix_one c.s hi, ld_arr c.s hi, ix_one c.s hi, st_arr c.s hi, hs, wrap_small (n := Int.tdiv (sc0 i) 2) (by omega) (by omega), wi]

theorem halve_b1 {lh ls lp lb M : Nat} : ∀ (n : Nat) (σ : Heap) (st : HS), n ≤ st.m → HAt σ lh ls lp lb M st → st.WF → (∀ i, 0 < i → i < st.m → n ≤ (i - 1) / 2 → st.up i) →
    ∃ σ' st', loopW (S.heap_Heap_Halve.b1 (.ptr lh 0)) ((n : Int) - 1) σ = some ((), σ') ∧ HAt σ' lh ls lp lb M st' ∧ Chg σ σ' lb lp ∧ HS.Like st st' ∧ st'.WF ∧ st'.HO
  | 0, σ, st, hn, H, w, h => by
    refine ⟨σ, st, loopW_stop ?_, H, Chg.refl .., HS.Like.refl _, w, fun i h1 h2 => h i h1 h2 (Nat.zero_le _)⟩
    unfold S.heap_Heap_Halve.b1
    rw [decide_eq_false (by omega), cond_false]
  | n + 1, σ, st, hn, H, w, h => by
    have o : st.Dn n n := ⟨w, by omega, Nat.le_refl _, fun i h1 h2 h3 h4 => h i h1 h2 (by omega), fun i h1 h2 h3 h4 h5 => by omega⟩
    obtain ⟨σ1, st1, e1, H1, c1, lk1, w1, o1⟩ := down_eq H o
    have hb := H.big; have hm := H.mN
    obtain ⟨σ2, st2, e2, H2, c2, lk2, w2, o2⟩ := halve_b1 n σ1 st1 (by have := lk1.2.1; omega) H1 w1 o1
    refine ⟨σ2, st2, loopW_next (x' := (n : Int) - 1) (σ' := σ1) ?_ e2, H2, c1.trans c2, lk1.trans lk2, w2, o2⟩
    unfold S.heap_Heap_Halve.b1
    have e : (((n + 1 : Nat) : Int) - 1) = (n : Int) := by omega
    rw [e, decide_eq_true (by omega), cond_true, e1]
    simp only [Option.bind_some]
    rw [wrap_small (by omega) (by omega)]

theorem halve_eq {σ : Heap} {lh : Nat} {F : Nat → Prop} {st : HS} (H : Hp σ lh F st) :
    ∃ σ' st', S.heap_Heap_Halve (.ptr lh 0) σ = some ((), σ') ∧ Hp σ' lh F st' ∧ Step σ σ' F F ∧ Halved st st' := by
  obtain ⟨ls, lp, vb, c, hl, _⟩ := H.at'.core
  have hb := c.big
  obtain ⟨σ1, sc1, e1, H1, c1, s1, r1⟩ := halve_b0 st.sc st.N H.sc st.N 0 σ st ls lp vb (by omega) H.at' c rfl (fun v hv => by rw [if_neg (by omega)])
  rw [show ((0 : Nat) : Int) = 0 from rfl] at e1
  have hsc : ∀ v, v < st.N → 0 ≤ sc1 v ∧ sc1 v ≤ most := fun v hv => by
    have := H.sc v hv
    rw [r1 v hv, Int.tdiv_eq_ediv_of_nonneg this.1]; omega
  have run : ∀ (σ2 : Heap), loopW (S.heap_Heap_Halve.b1 (.ptr lh 0)) ((st.m : Int) - 1) σ1 = some ((), σ2) → S.heap_Heap_Halve (.ptr lh 0) σ = some ((), σ2) := by
    intro σ2 e2
    have hm : st.m ≤ st.N := by have := H.wf.lt; omega
    unfold S.heap_Heap_Halve
    have hN : ∀ (K : Int → Option (Unit × Heap)), lenV (.sl ls 0 st.N none) K = K st.N := fun _ => rfl
    simp only [nilck, fld, c.l0, hN]
    rw [e1]
    simp only [Option.bind_some, c1.l2]
    rw [hl, wrap_small (by omega) (by omega), e2]; rfl
  rcases H1 with ⟨ls', lp', lb, M, H1, hF⟩ | ⟨ls', lp', H1, hm, hF⟩
  · obtain ⟨σ2, st2, e2, H2, c2, lk, w2, o2⟩ := halve_b1 st.m σ1 { st with sc := sc1 } (Nat.le_refl _) H1 ⟨H.wf.hs, H.wf.pl⟩ (fun i h1 h2 h3 => by have h2' : i < st.m := h2; omega)
    have N2 : st2.N = st.N := lk.1.symm
    have sc2 : st2.sc = sc1 := lk.2.2.1.symm
    refine ⟨σ2, st2, run σ2 e2, ⟨w2, o2, by rw [N2, sc2]; exact hsc, by rw [N2]; exact H.n1, by rw [N2]; exact H.n2, .inl ⟨_, _, _, _, H2, hF⟩⟩, s1.trans (by subst hF; exact c2.step), ⟨N2, by rw [sc2]; exact r1, lk.2.1.symm, lk.2.2.2⟩⟩
  · refine ⟨σ1, { st with sc := sc1 }, run σ1 (loopW_stop ?_), ⟨⟨H.wf.hs, H.wf.pl⟩, fun i h1 h2 => ?_, hsc, H.n1, H.n2, .inr ⟨_, _, H1, hm, hF⟩⟩, s1, ⟨rfl, r1, rfl, fun x => Iff.rfl⟩⟩
    · unfold S.heap_Heap_Halve.b1
      have hm' : st.m = 0 := hm
      rw [hm', decide_eq_false (by omega), cond_false]
    · have h2' : i < st.m := h2
      have hm' : st.m = 0 := hm
      omega
end Go.Proofs.Ytcmaphhcbgdigaa.A
