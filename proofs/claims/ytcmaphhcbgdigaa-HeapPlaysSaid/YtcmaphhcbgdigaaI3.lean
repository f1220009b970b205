/- HeapOrder: the plain law, its end. -/
import Derived.Test.YtcmaphhcbgdigaaI2
set_option linter.all false
namespace Go.Proofs.Ytcmaphhcbgdigaa.A
open Go

theorem tops_head {st : HS} (w : st.WF) (ho : st.HO) (hm : 0 < st.m) : (tops st)[0]? = some (st.hs 0) := by
  have h0 := w.hs 0 hm
  have hin : st.hs 0 ∈ tops st := by
    unfold tops; rw [List.mem_filter, List.mem_range, decide_eq_true_iff]; exact ⟨h0.2.1, by omega, rfl⟩
  have hmem : ∀ u ∈ tops st, st.hs 0 ≤ u := by
    intro u hu
    unfold tops at hu
    rw [List.mem_filter, List.mem_range, decide_eq_true_iff] at hu
    obtain ⟨i, hi, e, _⟩ := w.in hu.1 hu.2.1
    have := ho.top i hi
    rw [e] at this
    unfold ah at this; omega
  have hp : (tops st).Pairwise (· < ·) := List.Pairwise.filter _ List.pairwise_lt_range
  cases hl : tops st with
  | nil => rw [hl] at hin; cases hin
  | cons x l =>
    rw [hl] at hin hmem hp
    have h1 := hmem x List.mem_cons_self
    rcases List.mem_cons.1 hin with e | e
    · simp [e]
    · have := (List.pairwise_cons.1 hp).1 _ e; omega

theorem pop_any {σ : Heap} {lh : Nat} {F : Nat → Prop} {st : HS} (H : Hp σ lh F st) (hm : 0 < st.m) {t : Nat} (ht : t < 1000000) :
    ∃ σ' F' st' v, S.heap_Heap_Pop (.ptr lh 0) (t : Int) σ = some ((((v : Nat) : Int), true), σ') ∧ (tops st)[t % (tops st).length]? = some v ∧ Hp σ' lh F' st' ∧ Step σ σ' F F' ∧ Taken st st' v := by
  have h0 : 0 < (tops st).length := List.length_pos_iff.2 (tops_pos H.wf hm)
  by_cases hz : t = 0
  · subst hz
    obtain ⟨σ', st', e, H', s, tk⟩ := pop_zero H hm
    exact ⟨σ', F, st', st.hs 0, e, by rw [Nat.zero_mod]; exact tops_head H.wf H.ho hm, H', s, tk⟩
  · obtain ⟨σ', F', st', v, e, h, r⟩ := pop_tie H hm (tie := (t : Int)) (by omega) (by omega)
    refine ⟨σ', F', st', v, e, ?_, r⟩
    rw [← h]
    congr 1
    have e1 : Int.tmod (t : Int) ((tops st).length : Nat) = ((t % (tops st).length : Nat) : Int) := by
      rw [Int.tmod_eq_emod_of_nonneg (by omega)]; omega
    rw [e1, Int.tmod_eq_emod_of_nonneg (by omega)]
    have : ((t % (tops st).length : Nat) : Int) + ((tops st).length : Nat) = ((t % (tops st).length + (tops st).length : Nat) : Int) := by omega
    rw [this, ← Int.natCast_emod, Int.toNat_natCast, Nat.add_mod_right, Nat.mod_mod]

theorem and63 (n : Int) : ∃ t : Nat, t < 64 ∧ IntKind.i64.wrap (BitVec.toNat (BitVec.ofInt IntKind.i64.bits n &&& BitVec.ofInt IntKind.i64.bits 63)) = (t : Int) := by
  have h : (BitVec.ofInt IntKind.i64.bits n &&& BitVec.ofInt IntKind.i64.bits 63).toNat ≤ 63 := by
    rw [BitVec.toNat_and]
    exact Nat.le_trans Nat.and_le_right (by decide)
  generalize (BitVec.ofInt IntKind.i64.bits n &&& BitVec.ofInt IntKind.i64.bits 63).toNat = t at *
  exact ⟨t, by omega, wrap_small (by omega) (by omega)⟩

theorem among_tops {st : HS} {seen : Nat → Bool} {xs : List Int} {b : Int} (w : st.WF) (ho : st.HO) (hm : 0 < st.m) (hN : st.N = xs.length + 1) (hpl : ∀ x, x < st.N → (0 < st.pl x ↔ 0 < x ∧ seen x = false))
    (hsc : ∀ x, x < st.N → st.sc x = ordS xs x) (hb : Best (fun u => 0 < u ∧ seen u = false) (ordS xs) (xs.length + 1) b) : among seen (ordS xs) (xs.length + 1) b = tops st := by
  have h0 := w.hs 0 hm
  have hle := hb.le (st.hs 0) (by omega) ((hpl _ h0.2.1).1 (by omega))
  have hbe : b = st.sc (st.hs 0) := by
    rw [hsc _ h0.2.1]
    have hnn := (ordS_le xs (st.hs 0)).1
    rcases hb.at' with e | ⟨u, hu, hM, e⟩
    · omega
    · obtain ⟨i, hi, ei, _⟩ := w.in (v := u) (by omega) ((hpl u (by omega)).2 hM)
      have := nah_sc (ho.top i hi)
      rw [ei, hsc u (by omega), hsc _ h0.2.1] at this
      omega
  unfold among tops
  rw [hN]
  apply List.filter_congr
  intro u hu
  rw [List.mem_range] at hu
  rw [decide_eq_decide, hpl u (by omega), hsc u (by omega), hbe]
  simp only [and_assoc]

set_option maxHeartbeats 1000000 in
theorem order_b2 {lh b0 lseen : Nat} {v w : AVal} {xs ys : List Int} {ok : Bool} (hN : xs.length ≤ 40) (hxy : xs.length ≤ ys.length) : ∀ (n i : Nat) (last : Int) (σ : Heap) (F : Nat → Prop) (st : HS) (seen : Nat → Bool), i + n = xs.length →
    IsInts b0 σ v xs → IsInts b0 σ w ys → Hp σ lh F st → (∀ l, F l → b0 ≤ l ∧ l ≠ lseen) → b0 ≤ lseen → lseen < σ.next → σ.get lseen = some (.cells .rw 1 (tabB (xs.length + 1) seen)) →
    st.N = xs.length + 1 → st.m + i = xs.length → (∀ x, x < st.N → (0 < st.pl x ↔ 0 < x ∧ seen x = false)) → (∀ x, x < st.N → st.sc x = ordS xs x) → (∀ x, x < st.N → 0 < x → seen x = false → ordS xs x ≤ last) →
    ∃ σ' F' st', loopW (S.skolemlaw14_HeapOrder.b2 v w ok (.ptr lh 0) (.sl lseen 0 (xs.length + 1) none)) (last, (i : Int)) σ = some (.inl (), σ') ∧ Hp σ' lh F' st' ∧ st'.m = 0
  | 0, i, last, σ, F, st, seen, hn, hv, hw, H, hF, hb, hl, hg, h1, h2, h3, h4, h5 => by
    refine ⟨σ, F, st, loopW_stop ?_, H, by omega⟩
    unfold S.skolemlaw14_HeapOrder.b2
    rw [hv.len]
    dsimp only
    rw [decide_eq_false (by omega), cond_false]
  | n + 1, i, last, σ, F, st, seen, hn, hv, hw, H, hF, hb, hl, hg, h1, h2, h3, h4, h5 => by
    have hm : 0 < st.m := by omega
    -- those of the greatest score
    obtain ⟨σ1, lv, b, e1, n1, k1, hlv, hbest⟩ := order_b1 (lh := lh) (w := w) (ok := ok) (x1 := last) (x2 := (i : Int)) (B := σ.next) hN xs.length 1 σ .nils (-1) (by omega) (by omega) hv (by omega) hl (Nat.le_refl _) hg (by omega)
      ⟨fun u hu hM => absurd hM.1 (by omega), .inl rfl⟩ (.inl ⟨rfl, rfl⟩)
    rw [show ((1 : Nat) : Int) = 1 from rfl] at e1
    have hat := among_tops H.wf H.ho hm h1 h3 h4 hbest
    rw [hat] at hlv
    have H1 : Hp σ1 lh F st := H.keep n1 fun l e => k1 l (H.at'.lt e)
    have hw1 : IsInts b0 σ1 w ys := hw.keep fun l e => k1 l (by omega)
    obtain ⟨lw, hlw, rfl, hr⟩ := hw1.at (i := i) (by omega)
    obtain ⟨r1, r2⟩ := hr σ1 rfl
    obtain ⟨t, ht, et⟩ := and63 ys[i]
    obtain ⟨σ2, F2, st2, u, e2, hu, H2, s2, tk⟩ := pop_any H1 hm (t := t) (by omega)
    have hpos : 0 < (tops st).length := List.length_pos_iff.2 (tops_pos H.wf hm)
    have hmem := List.mem_of_getElem? hu
    unfold tops at hmem
    rw [List.mem_filter, List.mem_range, decide_eq_true_iff] at hmem
    obtain ⟨huN, hup, husc⟩ := hmem
    have hus := (h3 u huN).1 hup
    have N2 := tk.N; have m2 := tk.m
    have gseen : σ2.get lseen = some (.cells .rw 1 (tabB (xs.length + 1) seen)) := by
      rw [s2.get lseen (fun e => (hF _ e).2 rfl) (by omega), k1 lseen (by omega)]; exact hg
    have hw2 : σ2.get lw = σ1.get lw := s2.get lw (fun e => by have := (hF _ e).1; omega) (by omega)
    obtain ⟨r3, r4⟩ := hr σ2 hw2
    have hhas := has_eq H2 (u : Int)
    have d1 : decide (0 < (u : Int) ∧ (u : Int) < st2.N ∧ 0 < st2.pl (u : Int).toNat) = false := decide_eq_false (fun e => by
      have h := e.2.2; rw [Int.toNat_natCast] at h; exact ((tk.pl u).1 h).2 rfl)
    rw [d1] at hhas
    have hscore := score_eq H2 (u : Int)
    rw [if_pos ⟨by omega, by omega⟩, Int.toNat_natCast, tk.sc, h4 u huN] at hscore
    have hle := h5 u huN hus.1 hus.2
    -- the list
    have hlist : ∃ lo, lv = .sl lo 0 (tops st).length none ∧ σ2.get lo = some (.cells .rw 1 (cellsI ((tops st).map fun u : Nat => (u : Int)))) := by
      rcases hlv with ⟨_, e⟩ | ⟨lo, a, c, e, g⟩
      · have := congrArg List.length e; simp at this; rw [this] at hpos; simp at hpos
      · rw [List.length_map] at e
        exact ⟨lo, e, (s2.get lo (fun e => by have := H.at'.lt e; omega) c).trans g⟩
    obtain ⟨lo, rfl, hlo⟩ := hlist
    have tlen : (tops st).length ≤ st.N := by unfold tops; exact Nat.le_trans (List.length_filter_le _ _) (by simp)
    have etm : Int.tmod (t : Int) ((tops st).length : Nat) = ((t % (tops st).length : Nat) : Int) := by
      rw [Int.tmod_eq_emod_of_nonneg (by omega)]; omega
    have hmod := Nat.mod_lt t hpos
    have hwi : IntKind.i64.wrap ((i : Int) + 1) = ((i + 1 : Nat) : Int) := by rw [wrap_small (by omega) (by omega)]; omega
    obtain ⟨σ3, F3, st3, e3, H3, m3⟩ := order_b2 (lh := lh) (v := v) (w := .sl lw 0 ys.length none) (ok := ok) hN hxy n (i + 1) (ordS xs u) (σ2.set lseen (.cells .rw 1 (tabB (xs.length + 1) (upd seen u true)))) F2 st2 (upd seen u true) (by omega)
      (hv.keep fun l e => by rw [set_get, if_neg (by omega), s2.get l (fun e' => by have := (hF _ e').1; omega) (by omega), k1 l (by omega)])
      (hw1.keep fun l e => by rw [set_get, if_neg (by omega), s2.get l (fun e' => by have := (hF _ e').1; omega) (by omega)])
      (H2.keep (Nat.le_refl _) fun l e => by rw [set_get, if_neg (fun e' => by subst e'; rcases s2.foot _ e with e | e; exact (hF _ e).2 rfl; omega)])
      (fun l e => by rcases s2.foot _ e with e | e; exact hF _ e; exact ⟨by omega, by omega⟩) hb (by rw [set_next]; have := s2.next; omega) (by rw [set_get, if_pos rfl]) (by omega) (by omega)
      (fun x hx => by
        rw [tk.pl x, h3 x (by omega)]; unfold upd; split
        · rename_i e; simp [e]
        · rename_i e; simp [e])
      (fun x hx => by rw [tk.sc]; exact h4 x (by omega))
      (fun x hx h0 hs => by
        have hne : x ≠ u := fun e => by subst e; rw [upd_at] at hs; cases hs
        rw [upd_ne _ _ hne] at hs
        obtain ⟨j, hj, ej, _⟩ := H.wf.in (v := x) (by omega) ((h3 x (by omega)).2 ⟨h0, hs⟩)
        have := nah_sc (H.ho.top j hj)
        rw [ej, ← husc, h4 x (by omega), h4 u huN] at this
        exact this)
    refine ⟨σ3, F3, st3, loopW_next ?_ e3, H3, m3⟩
    unfold S.skolemlaw14_HeapOrder.b2
    rw [hv.len]
    dsimp only
    rw [decide_eq_true (by omega), cond_true, e1]
    simp only [Option.bind_some]
    rw [r1, r2, et, e2]
    simp only [Option.bind_some, Bool.not_true, cond_false]
    rw [ix_one gseen (show u < xs.length + 1 by omega), ld_tabB gseen (by omega), hus.2, cond_false, hhas]
    simp only [Option.bind_some, cond_false, lenV]
    rw [r3, r4, if_neg (by omega), et, etm, ix_one hlo hmod, ld_list hlo (by rw [List.length_map]; exact hmod)]
    have eget : ((tops st).map fun u : Nat => (u : Int))[t % (tops st).length]'(by rw [List.length_map]; exact hmod) = (u : Int) := by
      rw [List.getElem_map]
      have := List.getElem?_eq_getElem hmod
      rw [this] at hu
      simp only [Option.some.injEq] at hu
      rw [hu]
    rw [eget, bne_self_eq_false, cond_false, hscore]
    simp only [Option.bind_some]
    rw [decide_eq_false (show ¬ ordS xs u > last by omega), cond_false]
    rw [ix_one gseen (show u < xs.length + 1 by omega), stC_one gseen (by rw [List.length_map, List.length_range]; omega), tabB_set, hwi]

set_option maxHeartbeats 1000000 in
theorem order_plain {b0 : Nat} {σ : Heap} {v w : AVal} {xs ys : List Int} (hv : IsInts b0 σ v xs) (hw : IsInts b0 σ w ys) (hb : b0 ≤ σ.next) : ∃ σ', S.skolemlaw14_HeapOrder v w σ = some (true, σ') := by
  obtain ⟨σ1, e1, n1, k1⟩ := first_eq σ
  have hv1 := hv.keep fun l hl => k1 l (by omega)
  have hw1 := hw.keep fun l hl => k1 l (by omega)
  unfold S.skolemlaw14_HeapOrder
  rw [e1]
  simp only [Option.bind_some, Bool.not_true, cond_false]
  rw [hv.len, hw.len, hv.len]
  by_cases h1 : xs.length > 40
  · rw [decide_eq_true (by omega)]; simp
  rw [decide_eq_false (by omega), cond_false]
  simp only [Option.bind_some]
  by_cases h2 : ys.length < xs.length
  · rw [decide_eq_true (by omega)]; simp
  rw [decide_eq_false (by omega), cond_false, hv.len]
  obtain ⟨σ2, lh, F, st, e2, H2, s2, m2⟩ := new_eq σ1 xs.length
  rw [cutV_nat (by omega)] at m2
  have hF : ∀ l, F l → b0 ≤ l := fun l e => by rcases s2.foot l e with e | e; exact e.elim; omega
  have N2 := m2.N
  obtain ⟨σ3, st3, e3, H3, s3, t1, t2, t3, t4⟩ := order_b0 (w := w) (ok := true) (by omega) xs.length 0 σ2 F st (by omega) (hv1.keep fun l hl => s2.get l (fun e => e) (by omega)) H2 hF (by have := s2.next; omega) N2 m2.m m2.pl
    (fun x hx => by rw [m2.sc x hx]; split; (have : x = 0 := by omega); subst this; rfl; rfl)
  have ss := s2.trans s3
  rw [e2]
  simp only [Option.bind_some, eqP, cond_false]
  rw [show ((0 : Nat) : Int) = 0 from rfl] at e3
  rw [e3]
  simp only [Option.bind_some]
  rw [hv.len]
  have wn : IntKind.i64.wrap ((xs.length : Int) + 1) = ((xs.length + 1 : Nat) : Int) := by rw [wrap_small (by omega) (by omega)]; omega
  simp only [mkS, newK, wn]
  rw [if_pos (by omega), Int.toNat_natCast]
  have er : ∀ n, rep n [AVal.bool false] = tabB n (fun _ => false) := by
    intro n
    induction n with
    | zero => rfl
    | succ n ih =>
      show [AVal.bool false] ++ rep n [AVal.bool false] = _
      rw [ih]; unfold tabB; simp [List.range_succ_eq_map]
  rw [er]
  generalize hσ4 : σ3.new (.cells .rw 1 (tabB (xs.length + 1) fun _ => false)) = σ4
  have x4 : σ4.next = σ3.next + 1 := by rw [← hσ4]; rfl
  have g4 : ∀ l, l < σ3.next → σ4.get l = σ3.get l := fun l hl => by rw [← hσ4, new_get, if_neg (by omega)]
  have sn := ss.next
  have kk : ∀ l, l < b0 → σ4.get l = σ.get l := fun l hl => by rw [g4 l (by omega), ss.get l (fun e => e) (by omega), k1 l (by omega)]
  obtain ⟨σ5, F5, st5, e5, H5, m5⟩ := order_b2 (lh := lh) (lseen := σ3.next) (ok := true) (by omega) (show xs.length ≤ ys.length by omega) xs.length 0 9 σ4 F st3 (fun _ => false) (by omega) (hv.keep kk) (hw.keep kk)
    (H3.keep (by omega) fun l e => g4 l (H3.at'.lt e)) (fun l e => ⟨hF l e, by have := H3.at'.lt e; omega⟩) (by omega) (by omega) (by rw [← hσ4, new_get, if_pos rfl]) t1 (by omega)
    (fun x hx => by rw [t3 x hx]; simp) t4 (fun x hx _ _ => by have := ordS_le xs x; omega)
  rw [show ((0 : Nat) : Int) = 0 from rfl] at e5
  rw [e5]
  simp only [Option.bind_some]
  rw [pop_none H5 m5]
  simp only [Option.bind_some, Bool.not_false, cond_true]
  rw [len_eq H5, m5]
  exact ⟨_, rfl⟩
end Go.Proofs.Ytcmaphhcbgdigaa.A
