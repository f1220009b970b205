/- The program's heap: put, up, down. -/
import Derived.Test.YtcmaphhcbgdigaaTS
import Derived.Test.YtcmaphhcbgdigaaH1
set_option linter.all false
namespace Go.Proofs.Ytcmaphhcbgdigaa.A
open Go

structure HAt (σ : Heap) (lh ls lp lb M : Nat) (st : HS) : Prop where
  h : σ.get lh = some (.cells .rw 3 [.sl ls 0 st.N none, .sl lp 0 st.N none, .sl lb 0 st.m none])
  s : σ.get ls = some (.cells .rw 1 (tabI st.N st.sc))
  p : σ.get lp = some (.cells .rw 1 (tabI st.N (nat st.pl)))
  b : σ.get lb = some (.cells .rw 1 (tabI M (nat st.hs)))
  mM : st.m ≤ M
  mN : st.m ≤ st.N
  big : st.N ≤ 5000
  ne : lh ≠ ls ∧ lh ≠ lp ∧ lh ≠ lb ∧ ls ≠ lp ∧ ls ≠ lb ∧ lp ≠ lb
  lt : lh < σ.next ∧ ls < σ.next ∧ lp < σ.next ∧ lb < σ.next

/-- Two arrays alone are others. -/
structure Chg (σ σ' : Heap) (lb lp : Nat) : Prop where
  next : σ'.next = σ.next
  get : ∀ l, l ≠ lb → l ≠ lp → σ'.get l = σ.get l

theorem Chg.refl (σ : Heap) (lb lp : Nat) : Chg σ σ lb lp := ⟨rfl, fun _ _ _ => rfl⟩
theorem Chg.trans {σ σ1 σ2 : Heap} {lb lp : Nat} (a : Chg σ σ1 lb lp) (b : Chg σ1 σ2 lb lp) : Chg σ σ2 lb lp :=
  ⟨b.next.trans a.next, fun l h k => (b.get l h k).trans (a.get l h k)⟩

section
variable {σ : Heap} {lh ls lp lb M : Nat} {st : HS}

theorem HAt.l0 (H : HAt σ lh ls lp lb M st) {Rt : Type} (K : AVal → Option Rt) : ld σ (.ptr lh (0 + 0)) .V K = K (.sl ls 0 st.N none) := ld_v H.h rfl K
theorem HAt.l1 (H : HAt σ lh ls lp lb M st) {Rt : Type} (K : AVal → Option Rt) : ld σ (.ptr lh (0 + 1)) .V K = K (.sl lp 0 st.N none) := ld_v H.h rfl K
theorem HAt.l2 (H : HAt σ lh ls lp lb M st) {Rt : Type} (K : AVal → Option Rt) : ld σ (.ptr lh (0 + 2)) .V K = K (.sl lb 0 st.m none) := ld_v H.h rfl K

theorem ahead_eq (H : HAt σ lh ls lp lb M st) {a b : Nat} (ha : a < st.N) (hb : b < st.N) : S.heap_Heap_ahead (.ptr lh 0) a b σ = some (decide (ah st.sc a b)) := by
  unfold S.heap_Heap_ahead
  simp only [nilck, fld, H.l0, ix_one H.s ha, ix_one H.s hb, ld_arr H.s ha, ld_arr H.s hb]
  by_cases h : st.sc a > st.sc b
  · simp [h, ah]
  · by_cases h2 : st.sc a = st.sc b
    · simp [h2, ah]
    · have h3 : (st.sc a == st.sc b) = false := by simpa using h2
      simp [h, h2, h3, ah]

theorem put_eq (H : HAt σ lh ls lp lb M st) {k v : Nat} (hk : k < st.m) (hv : v < st.N) :
    ∃ σ', S.heap_Heap_put (.ptr lh 0) k v σ = some ((), σ') ∧ HAt σ' lh ls lp lb M (st.put k v) ∧ Chg σ σ' lb lp := by
  obtain ⟨n1, n2, n3, n4, n5, n6⟩ := H.ne
  have hm := H.mM
  unfold S.heap_Heap_put
  simp only [nilck, fld, H.l2, ix_one H.b hk]
  rw [st_arr H.b (by omega)]
  generalize hσ : σ.set lb (.cells .rw 1 (tabI M (upd (nat st.hs) k v))) = σ1
  have h1 : σ1.get lh = some (.cells .rw 3 [.sl ls 0 st.N none, .sl lp 0 st.N none, .sl lb 0 st.m none]) := by rw [← hσ, set_get, if_neg n3]; exact H.h
  have h2 : σ1.get lp = some (.cells .rw 1 (tabI st.N (nat st.pl))) := by rw [← hσ, set_get, if_neg n6]; exact H.p
  have hm2 := H.mN; have hb := H.big
  rw [ld_v h1 (k := 0 + 1) rfl, ix_one h2 hv, wrap_small (by omega) (by omega), st_arr h2 hv]
  refine ⟨_, rfl, ⟨?_, ?_, ?_, ?_, H.mM, H.mN, H.big, H.ne, by rw [set_next, ← hσ]; exact H.lt⟩, ⟨by rw [set_next, ← hσ]; rfl, fun l a b => ?_⟩⟩
  · rw [set_get, if_neg n2]; exact h1
  · rw [set_get, if_neg n4, ← hσ, set_get, if_neg n5]; exact H.s
  · rw [set_get, if_pos rfl]
    show _ = some (AObj.cells .rw 1 (tabI st.N (nat (upd st.pl v (k + 1)))))
    rw [← nat_upd]; rfl
  · rw [set_get, if_neg (Ne.symm n6), ← hσ, set_get, if_pos rfl]
    show _ = some (AObj.cells .rw 1 (tabI M (nat (upd st.hs k v))))
    rw [← nat_upd]
  · rw [set_get, if_neg b, ← hσ, set_get, if_neg a]

theorem half_eq {k : Nat} (h : 0 < k) (hk : k < 1000000) : IntKind.i64.wrap (Int.tdiv (IntKind.i64.wrap ((k : Int) - 1)) 2) = (((k - 1) / 2 : Nat) : Int) := by
  rw [wrap_small (n := (k : Int) - 1) (by omega) (by omega)]
  have e : Int.tdiv ((k : Int) - 1) 2 = (((k - 1) / 2 : Nat) : Int) := by
    rw [Int.tdiv_eq_ediv_of_nonneg (by omega)]; omega
  rw [e, wrap_small (by omega) (by omega)]

theorem put_N {s : HS} {k v : Nat} : (s.put k v).N = s.N := rfl
theorem put_m {s : HS} {k v : Nat} : (s.put k v).m = s.m := rfl
theorem put_at {s : HS} {k v : Nat} : (s.put k v).hs k = v := upd_at ..
theorem put_ne {s : HS} {k v i : Nat} (h : i ≠ k) : (s.put k v).hs i = s.hs i := upd_ne _ _ h

/-- The loop of `up`. -/
theorem up_loop (v : Nat) : ∀ (k : Nat) (st : HS) (σ : Heap), HAt σ lh ls lp lb M st → (st.put k v).Off k → (∀ i, i < st.m → st.hs i < st.N) → v < st.N →
    ∃ (k' : Nat) (st' : HS) (σ' : Heap), loopW (S.heap_Heap_up.b0 (.ptr lh 0) v) (k : Int) σ = some ((k' : Int), σ') ∧ HAt σ' lh ls lp lb M st' ∧ Chg σ σ' lb lp ∧ (st'.put k' v).Off k' ∧
      ¬ (0 < k' ∧ ah st'.sc v ((st'.put k' v).hs ((k' - 1) / 2))) ∧ ((st.put k v).Ch k → (st'.put k' v).Ch k') ∧ HS.Like (st.put k v) (st'.put k' v) := by
  intro k
  induction k using Nat.strongRecOn with
  | ind k ih =>
    intro st σ H o hh hv
    have hm := H.mM; have hm2 := H.mN; have hb := H.big
    have hk : k < st.m := o.lt
    by_cases h : 0 < k ∧ ah st.sc v (st.hs ((k - 1) / 2))
    · obtain ⟨h0, ha⟩ := h
      have hq : (k - 1) / 2 < st.m := by omega
      have hqk : k ≠ (k - 1) / 2 := by omega
      obtain ⟨σ1, e1, H1, c1⟩ := put_eq H (k := k) (v := st.hs ((k - 1) / 2)) hk (hh _ hq)
      have e2 : st.hs ((k - 1) / 2) = (st.put k v).hs ((k - 1) / 2) := (put_ne (by omega)).symm
      obtain ⟨o1, ch1⟩ := o.up h0 (by show ah st.sc _ _; rw [put_at, ← e2]; exact ha)
      rw [← HS.put_swap hqk] at o1 ch1
      obtain ⟨k', st', σ', e3, H3, c3, o3, s3, ch3, lk3⟩ := ih ((k - 1) / 2) (by omega) (st.put k (st.hs ((k - 1) / 2))) σ1 H1 o1 (fun i hi => by
        show upd st.hs k _ i < st.N; unfold upd; split
        · exact hh _ hq
        · exact hh _ hi) hv
      refine ⟨k', st', σ', loopW_next (x' := (((k - 1) / 2 : Nat) : Int)) (σ' := σ1) ?_ e3, H3, c1.trans c3, o3, s3, fun _ => ch3 ch1, HS.Like.trans ?_ lk3⟩
      · unfold S.heap_Heap_up.b0
        have hd : decide ((k : Int) > 0) = true := by simp; omega
        simp only [hd, cond_true, nilck, fld, H.l2, half_eq h0 (show k < 1000000 by omega)]
        rw [ix_one H.b hq, ld_arr H.b (by omega)]
        show ((Option.bind (S.heap_Heap_ahead (.ptr lh 0) v (st.hs ((k - 1) / 2) : Int) σ) _).bind _) = _
        rw [ahead_eq H hv (hh _ hq)]
        simp only [Option.bind_some, ha, decide_true, cond_true]
        rw [ix_one H.b hq, ld_arr H.b (by omega)]
        show (Option.bind (S.heap_Heap_put (.ptr lh 0) k (st.hs ((k - 1) / 2) : Int) σ) _) = _
        rw [e1]; rfl
      · rw [HS.put_swap hqk]; exact HS.swap_like o.wf hk hq
    · refine ⟨k, st, σ, loopW_stop ?_, H, Chg.refl .., o, fun e => h ⟨e.1, ?_⟩, id, HS.Like.refl _⟩
      · unfold S.heap_Heap_up.b0
        by_cases h0 : 0 < k
        · have hq : (k - 1) / 2 < st.m := by omega
          have hd : decide ((k : Int) > 0) = true := by simp; omega
          have ha : ¬ ah st.sc v (st.hs ((k - 1) / 2)) := fun e => h ⟨h0, e⟩
          simp only [hd, cond_true, nilck, fld, H.l2, half_eq h0 (show k < 1000000 by omega)]
          rw [ix_one H.b hq, ld_arr H.b (by omega)]
          show ((Option.bind (S.heap_Heap_ahead (.ptr lh 0) v (st.hs ((k - 1) / 2) : Int) σ) _).bind _) = _
          rw [ahead_eq H hv (hh _ hq)]
          simp only [Option.bind_some, ha, decide_false, cond_false]
        · have hd : decide ((k : Int) > 0) = false := by simp; omega
          simp only [hd, cond_false, Option.bind_some]
      · have := e.2; have h0 := e.1; rw [put_ne (by omega)] at this; exact this

/-- `up`, of what has no place yet. -/
theorem up_eq' (H : HAt σ lh ls lp lb M st) {k : Nat} (o : (st.put k (st.hs k)).Off k) (hh : ∀ i, i < st.m → st.hs i < st.N) :
    ∃ (σ' : Heap) (st' : HS), S.heap_Heap_up (.ptr lh 0) k σ = some ((), σ') ∧ HAt σ' lh ls lp lb M st' ∧ Chg σ σ' lb lp ∧ HS.Like (st.put k (st.hs k)) st' ∧ st'.WF ∧ ((st.put k (st.hs k)).Ch k → st'.HO) ∧
      ∃ k', k' < st'.m ∧ st'.hs k' = st.hs k ∧ st'.Dn 0 k' := by
  have hk : k < st.m := o.lt; have hm := H.mM
  obtain ⟨k', st', σ', e, H', c, o', s', ch', lk⟩ := up_loop (st.hs k) k st σ H o hh (hh k hk)
  have hm' : k' < st'.m := o'.lt
  obtain ⟨σ2, e2, H2, c2⟩ := put_eq H' (k := k') (v := st.hs k) hm' (by have := lk.1; rw [put_N, put_N] at this; rw [← this]; exact hh k hk)
  have s'' : ¬ (0 < k' ∧ ah (st'.put k' (st.hs k)).sc ((st'.put k' (st.hs k)).hs k') ((st'.put k' (st.hs k)).hs ((k' - 1) / 2))) := by rw [put_at]; exact s'
  refine ⟨σ2, st'.put k' (st.hs k), ?_, H2, c.trans c2, lk, o'.wf, fun ch => o'.ho (ch' ch) s'', k', hm', put_at, o'.dn s''⟩
  unfold S.heap_Heap_up
  simp only [nilck, fld, H.l2]
  rw [ix_one H.b hk, ld_arr H.b (by omega)]
  show Option.bind (loopW (S.heap_Heap_up.b0 (.ptr lh 0) (st.hs k : Int)) (k : Int) σ) _ = _
  rw [e]
  show Option.bind (S.heap_Heap_put (.ptr lh 0) (k' : Int) (st.hs k : Int) σ') _ = _
  rw [e2]; rfl

/-- `up`. -/
theorem up_eq (H : HAt σ lh ls lp lb M st) {k : Nat} (o : st.Off k) :
    ∃ (σ' : Heap) (st' : HS), S.heap_Heap_up (.ptr lh 0) k σ = some ((), σ') ∧ HAt σ' lh ls lp lb M st' ∧ Chg σ σ' lb lp ∧ HS.Like st st' ∧ st'.WF ∧ (st.Ch k → st'.HO) ∧
      ∃ k', k' < st'.m ∧ st'.hs k' = st.hs k ∧ st'.Dn 0 k' := by
  have ho : st.put k (st.hs k) = st := HS.put_own o.wf o.lt
  have := up_eq' H (k := k) (by rw [ho]; exact o) (fun i hi => (o.wf.hs i hi).2.1)
  rw [ho] at this; exact this
end
end Go.Proofs.Ytcmaphhcbgdigaa.A
