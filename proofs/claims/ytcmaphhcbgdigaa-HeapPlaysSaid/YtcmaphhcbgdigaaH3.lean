/- The program's heap: down. -/
import Derived.Test.YtcmaphhcbgdigaaH2
set_option linter.all false
namespace Go.Proofs.Ytcmaphhcbgdigaa.A
open Go

theorem wrap_2k1 {k : Nat} (hk : k < 1000000) : IntKind.i64.wrap (IntKind.i64.wrap (2 * (k : Int)) + 1) = ((2 * k + 1 : Nat) : Int) := by
  rw [wrap_small (n := 2 * (k : Int)) (by omega) (by omega), wrap_small (by omega) (by omega)]; omega
theorem wrap_2k2 {k : Nat} (hk : k < 1000000) : IntKind.i64.wrap (((2 * k + 1 : Nat) : Int) + 1) = ((2 * k + 2 : Nat) : Int) := by
  rw [wrap_small (by omega) (by omega)]; omega

/-- The child that stands first. -/
def kid (st : HS) (k : Nat) : Nat := if 2 * k + 2 < st.m ∧ ah st.sc (st.hs (2 * k + 2)) (st.hs (2 * k + 1)) then 2 * k + 2 else 2 * k + 1
theorem kid_or (st : HS) (k : Nat) : kid st k = 2 * k + 2 ∧ 2 * k + 2 < st.m ∨ kid st k = 2 * k + 1 := by
  unfold kid; split
  · rename_i h; exact .inl ⟨rfl, h.1⟩
  · exact .inr rfl
theorem kid_best {st : HS} {k i : Nat} (h0 : 0 < i) (hi : i < st.m) (hp : (i - 1) / 2 = k) : ¬ ah st.sc (st.hs i) (st.hs (kid st k)) := by
  have : i = 2 * k + 1 ∨ i = 2 * k + 2 := by omega
  unfold kid
  split
  · rename_i h
    rcases this with rfl | rfl
    · exact ah_asymm h.2
    · exact ah_irrefl
  · rename_i h
    rcases this with rfl | rfl
    · exact ah_irrefl
    · exact fun e => h ⟨hi, e⟩

section
variable {σ : Heap} {lh ls lp lb M : Nat} {st : HS}

/-- A round of `down`: which child, and whether it stops. -/
theorem down_round (H : HAt σ lh ls lp lb M st) {k v : Nat} (hk : k < st.m) (hh : ∀ i, i < st.m → st.hs i < st.N) (hv : v < st.N) :
    S.heap_Heap_down.b0 (.ptr lh 0) v k σ = if kid st k < st.m ∧ ah st.sc (st.hs (kid st k)) v then (S.heap_Heap_put (.ptr lh 0) k (st.hs (kid st k)) σ).bind fun r => some (.inl ((kid st k : Nat) : Int), r.2) else some (.inr (k : Int), σ) := by
  have hm := H.mM; have hm2 := H.mN; have hb := H.big
  unfold S.heap_Heap_down.b0
  simp only [nilck, fld, H.l2, lenV, wrap_2k1 (show k < 1000000 by omega), wrap_2k2 (show k < 1000000 by omega)]
  -- the child
  have e1 : ((cond (decide (((2 * k + 2 : Nat) : Int) < st.m)) (ixA σ (.sl lb 0 st.m none) 1 ((2 * k + 2 : Nat) : Int) fun a14 => ld σ a14 (.I .i64) fun n15 => ixA σ (.sl lb 0 st.m none) 1 ((2 * k + 1 : Nat) : Int) fun a18 => ld σ a18 (.I .i64) fun n19 =>
      (S.heap_Heap_ahead (.ptr lh 0) n15 n19 σ).bind fun r20 => some r20) (some false) : Option Bool)).bind (fun r21 => cond r21 (some ((2 * k + 2 : Nat) : Int)) (some ((2 * k + 1 : Nat) : Int))) = some ((kid st k : Nat) : Int) := by
    unfold kid
    by_cases h2 : 2 * k + 2 < st.m
    · rw [decide_eq_true (by omega), cond_true, ix_one H.b h2, ld_arr H.b (by omega), ix_one H.b (show 2 * k + 1 < st.m by omega), ld_arr H.b (by omega)]
      show ((Option.bind (S.heap_Heap_ahead (.ptr lh 0) (st.hs (2 * k + 2) : Int) (st.hs (2 * k + 1) : Int) σ) _).bind _) = _
      rw [ahead_eq H (hh _ h2) (hh _ (by omega))]
      by_cases h3 : ah st.sc (st.hs (2 * k + 2)) (st.hs (2 * k + 1))
      · simp only [Option.bind_some, h3, decide_true, cond_true, h2, and_self, if_true]
      · simp only [Option.bind_some, h3, decide_false, cond_false, and_false, if_false]
    · rw [decide_eq_false (by omega)]
      simp only [cond_false, Option.bind_some, h2, false_and, if_false]
  have e2 : ∀ {α β : Type} (x : Option Bool) (y z : Option α) (f : α → Option β), (x.bind fun r => (cond r y z).bind f) = (x.bind fun r => cond r y z).bind f := by
    intro α β x y z f; rw [Option.bind_assoc]
  rw [e2, e1]
  simp only [Option.bind_some]
  by_cases hc : kid st k < st.m
  · rw [decide_eq_false (by omega), cond_false, ix_one H.b hc, ld_arr H.b (by omega)]
    show ((Option.bind (S.heap_Heap_ahead (.ptr lh 0) (st.hs (kid st k) : Int) v σ) _).bind _) = _
    rw [ahead_eq H (hh _ hc) hv]
    by_cases ha : ah st.sc (st.hs (kid st k)) v
    · simp only [Option.bind_some, ha, decide_true, Bool.not_true, cond_false]
      rw [ix_one H.b hc, ld_arr H.b (by omega), if_pos ⟨hc, trivial⟩]; rfl
    · simp only [Option.bind_some, ha, decide_false, Bool.not_false, cond_true]
      rw [if_neg (fun e => e.2)]
  · rw [decide_eq_true (by omega), cond_true, Option.bind_some, cond_true, if_neg (fun e => hc e.1)]

theorem down_loop (b v : Nat) : ∀ (n k : Nat) (st : HS) (σ : Heap), st.m ≤ k + n → HAt σ lh ls lp lb M st → (st.put k v).Dn b k → (∀ i, i < st.m → st.hs i < st.N) → v < st.N →
    ∃ (k' : Nat) (st' : HS) (σ' : Heap), loopW (S.heap_Heap_down.b0 (.ptr lh 0) v) (k : Int) σ = some ((k' : Int), σ') ∧ HAt σ' lh ls lp lb M st' ∧ Chg σ σ' lb lp ∧ k' < st'.m ∧ (st'.put k' v).WF ∧
      (∀ i, 0 < i → i < st'.m → b ≤ (i - 1) / 2 → (st'.put k' v).up i) ∧ HS.Like (st.put k v) (st'.put k' v) := by
  intro n
  induction n with
  | zero => intro k st σ hn H o; have : k < st.m := o.lt; omega
  | succ n ih =>
    intro k st σ hn H o hh hv
    have hm := H.mM
    have hk : k < st.m := o.lt
    have hr := down_round H (v := v) hk hh hv
    have hc2 := kid_or st k
    have hbest : ∀ i, 0 < i → i < st.m → (i - 1) / 2 = k → ¬ ah st.sc ((st.put k v).hs i) ((st.put k v).hs (kid st k)) := by
      intro i h1 h2 h3
      rw [put_ne (by omega), put_ne (by omega)]; exact kid_best h1 h2 h3
    by_cases hc : kid st k < st.m ∧ ah st.sc (st.hs (kid st k)) v
    · rw [if_pos hc] at hr
      obtain ⟨σ1, e1, H1, c1⟩ := put_eq H (k := k) (v := st.hs (kid st k)) hk (hh _ hc.1)
      rw [e1] at hr
      have hck : k ≠ kid st k := by omega
      have o1 := o.down (c := kid st k) hc.1 (by omega) (by omega) hbest (by show ah st.sc _ _; rw [put_at, put_ne (by omega)]; exact hc.2)
      have e2 : (st.put k v).hs (kid st k) = st.hs (kid st k) := put_ne (by omega)
      rw [← HS.put_swap hck] at o1
      obtain ⟨k', st', σ', e3, H3, c3, m3, w3, o3, lk3⟩ := ih (kid st k) (st.put k (st.hs (kid st k))) σ1 (by show st.m ≤ _; omega) H1 o1 (fun i hi => by
        show upd st.hs k _ i < st.N; unfold upd; split
        · exact hh _ hc.1
        · exact hh _ hi) hv
      refine ⟨k', st', σ', loopW_next hr e3, H3, c1.trans c3, m3, w3, o3, HS.Like.trans ?_ lk3⟩
      rw [HS.put_swap hck]; exact HS.swap_like o.wf hk hc.1
    · rw [if_neg hc] at hr
      refine ⟨k, st, σ, loopW_stop hr, H, Chg.refl .., hk, o.wf, ?_, HS.Like.refl _⟩
      refine o.done fun i h1 h2 h3 => ?_
      have h2' : i < st.m := h2
      have h4 := hbest i h1 h2' h3
      rw [put_at]
      have h5 : kid st k < st.m := by omega
      have h6 : ¬ ah st.sc (st.hs (kid st k)) v := fun e => hc ⟨h5, e⟩
      rw [put_ne (i := kid st k) (by omega)] at h4
      exact nah_trans h4 h6

/-- `down`. -/
theorem down_eq (H : HAt σ lh ls lp lb M st) {b k : Nat} (o : st.Dn b k) :
    ∃ (σ' : Heap) (st' : HS), S.heap_Heap_down (.ptr lh 0) k σ = some ((), σ') ∧ HAt σ' lh ls lp lb M st' ∧ Chg σ σ' lb lp ∧ HS.Like st st' ∧ st'.WF ∧ (∀ i, 0 < i → i < st'.m → b ≤ (i - 1) / 2 → st'.up i) := by
  have hk := o.lt; have hm := H.mM
  have ho : st.put k (st.hs k) = st := HS.put_own o.wf hk
  obtain ⟨k', st', σ', e, H', c, m', w', o', lk⟩ := down_loop b (st.hs k) st.m k st σ (by omega) H (by rw [ho]; exact o) (fun i hi => (o.wf.hs i hi).2.1) ((o.wf.hs k hk).2.1)
  rw [ho] at lk
  obtain ⟨σ2, e2, H2, c2⟩ := put_eq H' (k := k') (v := st.hs k) m' (by have := lk.1; rw [put_N] at this; rw [← this]; exact (o.wf.hs k hk).2.1)
  refine ⟨σ2, st'.put k' (st.hs k), ?_, H2, c.trans c2, lk, w', o'⟩
  unfold S.heap_Heap_down
  simp only [nilck, fld, H.l2]
  rw [ix_one H.b hk, ld_arr H.b (by omega)]
  show Option.bind (loopW (S.heap_Heap_down.b0 (.ptr lh 0) (st.hs k : Int)) (k : Int) σ) _ = _
  rw [e]
  show Option.bind (S.heap_Heap_put (.ptr lh 0) (k' : Int) (st.hs k : Int) σ') _ = _
  rw [e2]; rfl
end
end Go.Proofs.Ytcmaphhcbgdigaa.A
