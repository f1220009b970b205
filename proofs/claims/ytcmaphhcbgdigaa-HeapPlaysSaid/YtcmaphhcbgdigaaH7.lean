/- The program's heap: take, Pop, Bump. -/
import Derived.Test.YtcmaphhcbgdigaaH6
set_option linter.all false
namespace Go.Proofs.Ytcmaphhcbgdigaa.A
open Go

/-- What take comes to. -/
structure Taken (st st' : HS) (v : Nat) : Prop where
  wf : st'.WF
  ho : st'.HO
  N : st'.N = st.N
  sc : st'.sc = st.sc
  m : st'.m + 1 = st.m
  pl : ∀ x, 0 < st'.pl x ↔ 0 < st.pl x ∧ x ≠ v

/-- Without its last, and what stands at k out. -/
def HS.less (st : HS) (v : Nat) : HS := { st with m := st.m - 1, pl := upd st.pl v 0 }

theorem less_off {st : HS} (w : st.WF) (ho : st.HO) {k : Nat} (hk : k < st.m - 1) : ((st.less (st.hs k)).put k (st.hs (st.m - 1))).Off k := by
  have nv : st.hs k ≠ st.hs (st.m - 1) := fun e => by have := w.inj (by omega) (by omega) e; omega
  have hh : ∀ i, ((st.less (st.hs k)).put k (st.hs (st.m - 1))).hs i = upd st.hs k (st.hs (st.m - 1)) i := fun i => rfl
  have hpl : ∀ x, ((st.less (st.hs k)).put k (st.hs (st.m - 1))).pl x = upd (upd st.pl (st.hs k) 0) (st.hs (st.m - 1)) (k + 1) x := fun i => rfl
  refine ⟨⟨fun i hi => ?_, fun x hx hp => ?_⟩, hk, fun i h1 h2 h3 h4 => ?_, fun i h1 h2 h3 h4 => ?_⟩
  · have hi' : i < st.m - 1 := hi
    show _ ∧ _ < st.N ∧ _
    rw [hh, hpl]
    by_cases h : i = k
    · subst h; rw [upd_at, upd_at]; have := w.hs (st.m - 1) (by omega); exact ⟨this.1, this.2.1, rfl⟩
    · rw [upd_ne _ _ h, upd_ne _ _ (fun e => by have := w.inj (by omega) (by omega) e; omega), upd_ne _ _ (fun e => h (w.inj (by omega) (by omega) e))]
      exact w.hs i (by omega)
  · rw [hpl] at hp ⊢
    show _ ≤ st.m - 1 ∧ _
    rw [hh]
    by_cases h : x = st.hs (st.m - 1)
    · subst h; rw [upd_at, Nat.add_sub_cancel, upd_at]; exact ⟨by omega, rfl⟩
    · rw [upd_ne _ _ h] at hp ⊢
      by_cases h2 : x = st.hs k
      · subst h2; rw [upd_at] at hp; omega
      · rw [upd_ne _ _ h2] at hp ⊢
        have := w.pl x hx hp
        have n1 : st.pl x - 1 ≠ st.m - 1 := fun e => h (by rw [← e]; exact this.2.symm)
        rw [upd_ne _ _ (fun e => h2 (by rw [← e]; exact this.2.symm))]
        exact ⟨by omega, this.2⟩
  · have h2' : i < st.m - 1 := h2
    show ¬ ah st.sc (upd st.hs k _ i) (upd st.hs k _ ((i - 1) / 2))
    rw [upd_ne _ _ h3, upd_ne _ _ h4]; exact ho i h1 (by omega)
  · have h2' : i < st.m - 1 := h2
    show ¬ ah st.sc (upd st.hs k _ i) (upd st.hs k _ ((k - 1) / 2))
    rw [upd_ne _ _ (by omega), upd_ne _ _ (by omega)]
    have a := ho i h1 (by omega); have b := ho k h4 (by omega)
    unfold HS.up at a; rw [h3] at a
    exact nah_trans a b

theorem less_ok {st : HS} (w : st.WF) (ho : st.HO) (hm : 0 < st.m) : (st.less (st.hs (st.m - 1))).WF ∧ (st.less (st.hs (st.m - 1))).HO := by
  refine ⟨⟨fun i hi => ?_, fun x hx hp => ?_⟩, fun i h1 h2 => ?_⟩
  · have hi' : i < st.m - 1 := hi
    show 0 < st.hs i ∧ st.hs i < st.N ∧ upd st.pl (st.hs (st.m - 1)) 0 (st.hs i) = i + 1
    rw [upd_ne _ _ (fun e => by have := w.inj (by omega) (by omega) e; omega)]; exact w.hs i (by omega)
  · have hp' : 0 < upd st.pl (st.hs (st.m - 1)) 0 x := hp
    show upd st.pl (st.hs (st.m - 1)) 0 x ≤ st.m - 1 ∧ st.hs (upd st.pl (st.hs (st.m - 1)) 0 x - 1) = x
    by_cases h : x = st.hs (st.m - 1)
    · subst h; rw [upd_at] at hp'; omega
    · rw [upd_ne _ _ h] at hp' ⊢
      have := w.pl x hx hp'
      have n1 : st.pl x - 1 ≠ st.m - 1 := fun e => h (by rw [← e]; exact this.2.symm)
      exact ⟨by omega, this.2⟩
  · have h2' : i < st.m - 1 := h2
    exact ho i h1 (by omega)

section
variable {σ : Heap} {lh : Nat}

theorem take_eq {ls lp lb M : Nat} {st : HS} (H : HAt σ lh ls lp lb M st) (w : st.WF) (ho : st.HO) {k : Nat} (hk : k < st.m) :
    ∃ σ' st', S.heap_Heap_take (.ptr lh 0) k σ = some ((st.hs k : Int), σ') ∧ HAt σ' lh ls lp lb M st' ∧ Step σ σ' (foot lh ls lp lb) (foot lh ls lp lb) ∧ Taken st st' (st.hs k) := by
  have hm := H.mM; have hN := H.mN; have hb := H.big
  obtain ⟨n1, n2, n3, n4, n5, n6⟩ := H.ne
  have hv := w.hs k hk
  have hl := w.hs (st.m - 1) (by omega)
  unfold S.heap_Heap_take
  simp only [nilck, fld, H.l2, lenV]
  have e1 : IntKind.i64.wrap ((st.m : Int) - 1) = ((st.m - 1 : Nat) : Int) := by rw [wrap_small (by omega) (by omega)]; omega
  rw [ix_one H.b hk, ld_arr H.b (by omega), e1, ix_one H.b (show st.m - 1 < st.m by omega), ld_arr H.b (by omega)]
  have e2 : ∀ {Rt : Type} (K : AVal → Option Rt), slS σ 1 (.sl lb 0 st.m none) 0 (some ((st.m - 1 : Nat) : Int)) none K = K (.sl lb 0 (st.m - 1) none) := by
    intro Rt K
    simp only [slS, H.b, Option.getD_some, Option.getD_none, Option.isNone_none, Bool.true_or, clipTo]
    rw [if_pos ⟨trivial, by omega, by omega, by omega, by omega, trivial⟩]
    rfl
  rw [e2]
  simp only [scal]
  rw [stC_one (o := 0 + 2) H.h (by simp)]
  generalize hσ1 : σ.set lh _ = σ1
  have h1 : σ1.get lh = some (.cells .rw 3 [.sl ls 0 st.N none, .sl lp 0 st.N none, .sl lb 0 (st.m - 1) none]) := by rw [← hσ1, set_get, if_pos rfl]; rfl
  have g1 : ∀ l, l ≠ lh → σ1.get l = σ.get l := fun l a => by rw [← hσ1, set_get, if_neg a]
  have p1 := (g1 lp (Ne.symm n2)).trans H.p
  rw [ld_v h1 (k := 0 + 1) rfl]
  rw [show nat st.hs k = ((st.hs k : Nat) : Int) from rfl, show nat st.hs (st.m - 1) = ((st.hs (st.m - 1) : Nat) : Int) from rfl]
  rw [ix_one p1 hv.2.1, st_arr p1 hv.2.1]
  generalize hσ2 : σ1.set lp _ = σ2
  have H2 : HAt σ2 lh ls lp lb M (st.less (st.hs k)) := ⟨by rw [← hσ2, set_get, if_neg n2]; exact h1, by rw [← hσ2, set_get, if_neg n4, g1 _ (Ne.symm n1)]; exact H.s,
    by rw [← hσ2, set_get, if_pos rfl]; show _ = some (AObj.cells .rw 1 (tabI st.N (nat (upd st.pl (st.hs k) 0)))); rw [← nat_upd]; rfl,
    by rw [← hσ2, set_get, if_neg (Ne.symm n6), g1 _ (Ne.symm n3)]; exact H.b, by show st.m - 1 ≤ M; omega, by show st.m - 1 ≤ st.N; omega, H.big, H.ne, by rw [← hσ2, set_next, ← hσ1, set_next]; exact H.lt⟩
  have s2 : Step σ σ2 (foot lh ls lp lb) (foot lh ls lp lb) := ⟨by rw [← hσ2, set_next, ← hσ1, set_next]; exact Nat.le_refl _, fun l hl _ => by
    rw [← hσ2, set_get, if_neg (fun e => hl (.inr (.inr (.inl e)))), g1 l (fun e => hl (.inl e))], fun l h => .inl h⟩
  have plv : ∀ x, 0 < upd st.pl (st.hs k) 0 x ↔ 0 < st.pl x ∧ x ≠ st.hs k := by
    intro x; unfold upd; split
    · rename_i h; simp [h]
    · rename_i h; simp [h]
  by_cases hlast : k < st.m - 1
  · rw [decide_eq_true (by omega), cond_true]
    obtain ⟨σ3, e3, H3, c3⟩ := put_eq H2 (k := k) (v := st.hs (st.m - 1)) hlast hl.2.1
    have o := less_off w ho hlast
    obtain ⟨σ4, st4, e4, H4, c4, lk4, w4, _, k', hk', hh4, dn4⟩ := up_eq H3 o
    have hh4' : st4.hs k' = st.hs (st.m - 1) := hh4.trans put_at
    have N4 : st4.N = st.N := lk4.1.symm
    have m4 : st4.m = st.m - 1 := lk4.2.1.symm
    have pl4 : st4.pl (st.hs (st.m - 1)) = k' + 1 := by have := (w4.hs k' hk').2.2; rw [hh4'] at this; exact this
    obtain ⟨σ5, st5, e5, H5, c5, lk5, w5, o5⟩ := down_eq H4 dn4
    refine ⟨σ5, st5, ?_, H5, s2.trans (c3.step.trans (c4.step.trans c5.step)), ⟨w5, fun i h1 h2 => o5 i h1 h2 (Nat.zero_le _), lk5.1.symm.trans N4, lk5.2.2.1.symm.trans lk4.2.2.1.symm, by have := lk5.2.1; omega, fun x => ?_⟩⟩
    · rw [e3]
      simp only [Option.bind_some]
      rw [e4]
      simp only [Option.bind_some]
      rw [H4.l1]
      rw [ix_one H4.p (by omega), ld_arr H4.p (by omega)]
      have e6 : IntKind.i64.wrap (nat st4.pl (st.hs (st.m - 1)) - 1) = (k' : Int) := by
        show IntKind.i64.wrap (((st4.pl (st.hs (st.m - 1)) : Nat) : Int) - 1) = _
        rw [pl4, wrap_small (by omega) (by omega)]; omega
      rw [e6, e5]; rfl
    · rw [lk5.2.2.2 x, lk4.2.2.2 x]
      show 0 < upd (upd st.pl (st.hs k) 0) (st.hs (st.m - 1)) (k + 1) x ↔ _
      rw [← plv]
      by_cases e : x = st.hs (st.m - 1)
      · subst e; rw [upd_at]; simp only [plv]
        exact ⟨fun _ => ⟨by omega, fun e => by have := w.inj (by omega) (by omega) e; omega⟩, fun _ => by omega⟩
      · rw [upd_ne _ _ e]
  · rw [decide_eq_false (by omega), cond_false]
    have hke : k = st.m - 1 := by omega
    subst hke
    obtain ⟨w2, ho2⟩ := less_ok w ho (by omega)
    exact ⟨σ2, _, rfl, H2, s2, ⟨w2, ho2, rfl, rfl, by show st.m - 1 + 1 = st.m; omega, plv⟩⟩

variable {F : Nat → Prop} {st : HS}
theorem Hp.full (H : Hp σ lh F st) (hm : 0 < st.m) : ∃ ls lp lb M, HAt σ lh ls lp lb M st ∧ F = foot lh ls lp lb := by
  rcases H.at' with h | ⟨_, _, _, h, _⟩
  · exact h
  · omega

/-- The last part of Pop: out with v. -/
theorem pop_tail (H : Hp σ lh F st) {v : Nat} (hv : v < st.N) (hp : 0 < st.pl v) :
    ∃ σ' st', (nilck (.ptr lh 0) (fld (.ptr lh 0) 1 fun a15 => ld σ a15 .V fun v16 => ixA σ v16 1 (v : Int) fun a17 => ld σ a17 (.I .i64) fun n18 =>
      (S.heap_Heap_take (.ptr lh 0) (IntKind.i64.wrap (n18 - 1)) σ).bind fun r19 => some ((r19.1, true), r19.2))) = some (((v : Int), true), σ') ∧ Hp σ' lh F st' ∧ Step σ σ' F F ∧ Taken st st' v := by
  obtain ⟨hple, hhs⟩ := H.wf.pl v hv hp
  obtain ⟨ls, lp, lb, M, h, rfl⟩ := H.full (by omega)
  have hN := h.mN; have hb := h.big
  obtain ⟨σ', st', e, H', s, t⟩ := take_eq h H.wf H.ho (k := st.pl v - 1) (by omega)
  rw [hhs] at e t
  refine ⟨σ', st', ?_, ⟨t.wf, t.ho, by rw [t.N, t.sc]; exact H.sc, by rw [t.N]; exact H.n1, by rw [t.N]; exact H.n2, .inl ⟨ls, lp, lb, M, H', rfl⟩⟩, s, t⟩
  simp only [nilck, fld, h.l1]
  rw [ix_one h.p hv, ld_arr h.p hv]
  have e6 : IntKind.i64.wrap (nat st.pl v - 1) = ((st.pl v - 1 : Nat) : Int) := by
    show IntKind.i64.wrap (((st.pl v : Nat) : Int) - 1) = _
    rw [wrap_small (by omega) (by omega)]; omega
  rw [e6, e]; rfl

theorem pop_none (H : Hp σ lh F st) (hm : st.m = 0) (tie : Int) : S.heap_Heap_Pop (.ptr lh 0) tie σ = some ((0, false), σ) := by
  obtain ⟨ls, lp, vb, c, hl, _⟩ := H.at'.core
  unfold S.heap_Heap_Pop
  simp only [nilck, fld, c.l2, hl, hm]
  rfl

theorem pop_zero (H : Hp σ lh F st) (hm : 0 < st.m) :
    ∃ σ' st', S.heap_Heap_Pop (.ptr lh 0) 0 σ = some (((st.hs 0 : Int), true), σ') ∧ Hp σ' lh F st' ∧ Step σ σ' F F ∧ Taken st st' (st.hs 0) := by
  have h0 := H.wf.hs 0 hm
  obtain ⟨σ', st', e, r⟩ := pop_tail H (v := st.hs 0) h0.2.1 (by omega)
  refine ⟨σ', st', ?_, r⟩
  obtain ⟨ls, lp, lb, M, h, hF⟩ := H.full hm
  have hM := h.mM
  unfold S.heap_Heap_Pop
  have hz : ((st.m : Int) == 0) = false := by simpa using (show st.m ≠ 0 by omega)
  have hz2 : ((0 : Int) != 0) = false := rfl
  simp only [nilck, fld, h.l2, lenV, hz, cond_false]
  rw [ix_int h.b (by omega) (by omega), ld_arr h.b (by show 0 < M; omega)]
  simp only [hz2, cond_false, Option.bind_some]
  exact e
end
end Go.Proofs.Ytcmaphhcbgdigaa.A
