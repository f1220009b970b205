/- The program's heap: Push, Grow, New. -/
import Derived.Test.YtcmaphhcbgdigaaH4
set_option linter.all false
namespace Go.Proofs.Ytcmaphhcbgdigaa.A
open Go

/-- What Push comes to. -/
structure Pushed (st st' : HS) (v : Nat) : Prop where
  wf : st'.WF
  ho : st'.HO
  N : st'.N = st.N
  sc : st'.sc = st.sc
  m : st'.m = st.m + 1
  pl : ∀ x, 0 < st'.pl x ↔ 0 < st.pl x ∨ x = v

section
variable {σ : Heap} {lh : Nat} {F : Nat → Prop} {st : HS}

theorem push_in (H : HIn σ lh F st) (w : st.WF) (ho : st.HO) {v : Nat} (h0 : 0 < v) (hv : v < st.N) (hp : st.pl v = 0) :
    ∃ σ' F' st', S.heap_Heap_Push (.ptr lh 0) v σ = some (true, σ') ∧ HIn σ' lh F' st' ∧ Step σ σ' F F' ∧ Pushed st st' v := by
  have hmN : st.m + 1 ≤ st.N := by
    have := pigeon st.N (st.m + 2) (fun i => if i = st.m then v else if i = st.m + 1 then 0 else st.hs i) (fun i hi => by
      split
      · exact hv
      · split
        · omega
        · exact (w.hs i (by omega)).2.1) (fun i j hi hj e => by
      have hne : ∀ i, i < st.m → st.hs i ≠ v ∧ st.hs i ≠ 0 := fun i hi => ⟨fun e => by have := (w.hs i hi).2.2; rw [e] at this; omega, by have := (w.hs i hi).1; omega⟩
      split at e <;> split at e <;> (try split at e) <;> (try split at e) <;> (try omega)
      · exact absurd e.symm (hne j (by omega)).1
      · exact absurd e.symm (hne j (by omega)).2
      · exact absurd e (hne i (by omega)).1
      · exact absurd e (hne i (by omega)).2
      · exact w.inj (by omega) (by omega) e)
    omega
  obtain ⟨ls, lp, vb, c, hl, _⟩ := H.core
  have hbig := c.big
  have e0 : S.heap_Heap_Push (.ptr lh 0) v σ = ld σ (.ptr lh (0 + 2)) .V fun v8 => newK σ 1 [(.int .i64 v)] fun l9 σ10 => appS σ10 1 8 v8 (.sl l9 0 1 none) fun v11 σ12 =>
      scal v11 (stC σ12 (.ptr lh (0 + 2)) [v11] fun σ14 => ld σ14 (.ptr lh (0 + 2)) .V fun v16 => lenV v16 fun n17 => (S.heap_Heap_up (.ptr lh 0) (IntKind.i64.wrap (n17 - 1)) σ14).bind fun r18 => some (true, r18.2)) := by
    unfold S.heap_Heap_Push
    rw [is_core c]
    have hd : decide (0 < (v : Int) ∧ (v : Int) < st.N) = true := decide_eq_true ⟨by omega, by omega⟩
    simp only [hd, Option.bind_some, Bool.not_true, cond_false, nilck, fld, c.l1]
    rw [ix_one c.p hv, ld_arr c.p hv]
    simp only [nat, hp, Option.bind_some]
    simp only [show ¬ ((0 : Nat) : Int) > 0 from by omega, decide_false, cond_false]
  rw [e0]
  clear e0 c hl
  rcases H with ⟨ls, lp, lb, M, H, rfl⟩ | ⟨ls, lp, H, hm, rfl⟩
  · obtain ⟨n1, n2, n3, n4, n5, n6⟩ := H.ne
    obtain ⟨t1, t2, t3, t4⟩ := H.lt
    have hM := H.mM
    rw [H.l2]
    simp only [newK]
    generalize hσ1 : σ.new (.cells .rw 1 [.int .i64 v]) = σ1
    have x1 : σ1.next = σ.next + 1 := by rw [← hσ1]; rfl
    have g1 : ∀ l, l < σ.next → σ1.get l = σ.get l := fun l hl => by rw [← hσ1, new_get, if_neg (by omega)]
    have ga : σ1.get σ.next = some (.cells .rw 1 [.int .i64 v]) := by rw [← hσ1, new_get, if_pos rfl]
    by_cases hroom : st.m < M
    · rw [app_room ((g1 lb t4).trans H.b) ga hroom (by omega)]
      generalize hσ2 : σ1.set lb (.cells .rw 1 (tabI M (upd (nat st.hs) st.m v))) = σ2
      have h2 : σ2.get lh = some (.cells .rw 3 [.sl ls 0 st.N none, .sl lp 0 st.N none, .sl lb 0 st.m none]) := by rw [← hσ2, set_get, if_neg n3, g1 _ t1]; exact H.h
      simp only [scal]
      rw [Nat.zero_add, stC_one h2 (by simp)]
      generalize hσ3 : σ2.set lh _ = σ3
      have h3 : σ3.get lh = some (.cells .rw 3 [.sl ls 0 st.N none, .sl lp 0 st.N none, .sl lb 0 (st.m + 1) none]) := by rw [← hσ3, set_get, if_pos rfl]; rfl
      have g3 : ∀ l, l ≠ lh → l ≠ lb → l < σ.next → σ3.get l = σ.get l := fun l a b hl => by rw [← hσ3, set_get, if_neg a, ← hσ2, set_get, if_neg b, g1 l hl]
      have x3 : σ3.next = σ.next + 1 := by rw [← hσ3, set_next, ← hσ2, set_next, x1]
      have H3 : HAt σ3 lh ls lp lb M (st.more v) := ⟨h3, (g3 ls (Ne.symm n1) n5 t2).trans H.s, (g3 lp (Ne.symm n2) n6 t3).trans H.p,
        by rw [← hσ3, set_get, if_neg (Ne.symm n3), ← hσ2, set_get, if_pos rfl, nat_upd]; rfl, hroom, by show st.m + 1 ≤ st.N; omega, H.big, H.ne, ⟨by omega, by omega, by omega, by omega⟩⟩
      obtain ⟨σ', st', e, H', ch, w', ho', r1, r2, r3, r4⟩ := push_tail H3 w ho h0 hv hp
      refine ⟨σ', _, st', ?_, .inl ⟨ls, lp, lb, M, H', rfl⟩, Step.trans ⟨by omega, fun l hl hlt => g3 l (fun e => hl (.inl e)) (fun e => hl (.inr (.inr (.inr e)))) hlt, fun l h => .inl h⟩ ch.step, ⟨w', ho', r1, r2, r3, r4⟩⟩
      rw [ld_v h3 rfl]
      simp only [lenV]
      rw [e]; rfl
    · have hMe : M = st.m := by omega
      subst hMe
      rw [app_full ((g1 lb t4).trans H.b) ga (by omega)]
      generalize hσ2 : (σ1.kill lb).new (.cells .rw 1 (tabI (st.m + 1) (upd (nat st.hs) st.m v))) = σ2
      have g2 : ∀ l, l ≠ lb → l < σ.next → σ2.get l = σ.get l := fun l a hl => by rw [← hσ2, new_get, kill_next, x1, if_neg (by omega), kill_get, if_neg a, g1 l hl]
      have h2 : σ2.get lh = some (.cells .rw 3 [.sl ls 0 st.N none, .sl lp 0 st.N none, .sl lb 0 st.m none]) := by rw [g2 _ n3 t1]; exact H.h
      simp only [scal]
      rw [Nat.zero_add, stC_one h2 (by simp)]
      generalize hσ3 : σ2.set lh _ = σ3
      have h3 : σ3.get lh = some (.cells .rw 3 [.sl ls 0 st.N none, .sl lp 0 st.N none, .sl (σ.next + 1) 0 (st.m + 1) none]) := by rw [← hσ3, set_get, if_pos rfl, ← x1]; rfl
      have g3 : ∀ l, l ≠ lh → l ≠ lb → l < σ.next → σ3.get l = σ.get l := fun l a b hl => by rw [← hσ3, set_get, if_neg a, g2 l b hl]
      have x3 : σ3.next = σ.next + 2 := by rw [← hσ3, set_next, ← hσ2, new_next, kill_next, x1]
      have H3 : HAt σ3 lh ls lp (σ.next + 1) (st.m + 1) (st.more v) := ⟨h3, (g3 ls (Ne.symm n1) n5 t2).trans H.s, (g3 lp (Ne.symm n2) n6 t3).trans H.p,
        by rw [← hσ3, set_get, if_neg (by omega), ← hσ2, new_get, kill_next, x1, if_pos rfl, nat_upd]; rfl, Nat.le_refl _, by show st.m + 1 ≤ st.N; omega, H.big, ⟨n1, n2, by omega, n4, by omega, by omega⟩, ⟨by omega, by omega, by omega, by omega⟩⟩
      obtain ⟨σ', st', e, H', ch, w', ho', r1, r2, r3, r4⟩ := push_tail H3 w ho h0 hv hp
      refine ⟨σ', _, st', ?_, .inl ⟨ls, lp, _, _, H', rfl⟩, Step.trans (F1 := foot lh ls lp (σ.next + 1)) ⟨by omega, fun l hl hlt => g3 l (fun e => hl (.inl e)) (fun e => hl (.inr (.inr (.inr e)))) hlt, fun l h => ?_⟩ ch.step, ⟨w', ho', r1, r2, r3, r4⟩⟩
      · rw [ld_v h3 rfl]
        simp only [lenV]
        rw [e]; rfl
      · rcases h with h | h | h | h
        · exact .inl (.inl h)
        · exact .inl (.inr (.inl h))
        · exact .inl (.inr (.inr (.inl h)))
        · exact .inr (by omega)
  · obtain ⟨n1, n2, n4⟩ := H.ne
    obtain ⟨t1, t2, t3⟩ := H.lt
    rw [H.l2]
    simp only [newK]
    generalize hσ1 : σ.new (.cells .rw 1 [.int .i64 v]) = σ1
    have x1 : σ1.next = σ.next + 1 := by rw [← hσ1]; rfl
    have g1 : ∀ l, l < σ.next → σ1.get l = σ.get l := fun l hl => by rw [← hσ1, new_get, if_neg (by omega)]
    have ga : σ1.get σ.next = some (.cells .rw 1 [.int .i64 v]) := by rw [← hσ1, new_get, if_pos rfl]
    rw [app_nil ga]
    generalize hσ2 : σ1.new (.cells .rw 1 (tabI 1 (upd (fun _ => 0) 0 (v : Int)))) = σ2
    have g2 : ∀ l, l < σ.next → σ2.get l = σ.get l := fun l hl => by rw [← hσ2, new_get, x1, if_neg (by omega), g1 l hl]
    have h2 : σ2.get lh = some (.cells .rw 3 [.sl ls 0 st.N none, .sl lp 0 st.N none, .nils]) := by rw [g2 _ t1]; exact H.h
    simp only [scal]
    rw [Nat.zero_add, stC_one h2 (by simp)]
    generalize hσ3 : σ2.set lh _ = σ3
    have h3 : σ3.get lh = some (.cells .rw 3 [.sl ls 0 st.N none, .sl lp 0 st.N none, .sl (σ.next + 1) 0 (st.m + 1) none]) := by rw [← hσ3, set_get, if_pos rfl, ← x1, hm]; rfl
    have g3 : ∀ l, l ≠ lh → l < σ.next → σ3.get l = σ.get l := fun l a hl => by rw [← hσ3, set_get, if_neg a, g2 l hl]
    have x3 : σ3.next = σ.next + 2 := by rw [← hσ3, set_next, ← hσ2, new_next, x1]
    have H3 : HAt σ3 lh ls lp (σ.next + 1) (st.m + 1) (st.more v) := ⟨h3, (g3 ls (Ne.symm n1) t2).trans H.s, (g3 lp (Ne.symm n2) t3).trans H.p,
      by
        rw [← hσ3, set_get, if_neg (by omega), ← hσ2, new_get, x1, if_pos rfl, hm]
        refine congrArg (fun x => some (AObj.cells .rw 1 x)) (tabI_congr fun i hi => ?_)
        have : i = 0 := by omega
        subst this
        rw [upd_at]; show (v : Int) = ((upd st.hs st.m v 0 : Nat) : Int); rw [hm, upd_at], Nat.le_refl _, by show st.m + 1 ≤ st.N; omega, H.big, ⟨n1, n2, by omega, n4, by omega, by omega⟩, ⟨by omega, by omega, by omega, by omega⟩⟩
    obtain ⟨σ', st', e, H', ch, w', ho', r1, r2, r3, r4⟩ := push_tail H3 w ho h0 hv hp
    refine ⟨σ', _, st', ?_, .inl ⟨ls, lp, _, _, H', rfl⟩, Step.trans (F1 := foot lh ls lp (σ.next + 1)) ⟨by omega, fun l hl hlt => g3 l (fun e => hl (.inl e)) hlt, fun l h => ?_⟩ ch.step, ⟨w', ho', r1, r2, r3, r4⟩⟩
    · rw [ld_v h3 rfl]
      simp only [lenV]
      rw [e]; rfl
    · rcases h with h | h | h | h
      · exact .inl (.inl h)
      · exact .inl (.inr (.inl h))
      · exact .inl (.inr (.inr (.inl h)))
      · exact .inr (by omega)

theorem push_no (H : Hp σ lh F st) {v : Int} (h : ¬ (0 < v ∧ v < st.N ∧ st.pl v.toNat = 0)) : S.heap_Heap_Push (.ptr lh 0) v σ = some (false, σ) := by
  obtain ⟨ls, lp, vb, c, hl, _⟩ := H.at'.core
  unfold S.heap_Heap_Push
  rw [is_core c]
  by_cases h2 : 0 < v ∧ v < st.N
  · simp only [Option.bind_some, h2, and_self, decide_true, Bool.not_true, cond_false, nilck, fld, c.l1]
    rw [ix_int c.p (by omega) h2.2, ld_arr c.p (by omega)]
    have : nat st.pl v.toNat > 0 := by show ((st.pl v.toNat : Nat) : Int) > 0; have : st.pl v.toNat ≠ 0 := fun e => h ⟨h2.1, h2.2, e⟩; omega
    simp [this]
  · simp [h2]
theorem push_yes (H : Hp σ lh F st) {v : Nat} (h0 : 0 < v) (hv : v < st.N) (hp : st.pl v = 0) :
    ∃ σ' F' st', S.heap_Heap_Push (.ptr lh 0) v σ = some (true, σ') ∧ Hp σ' lh F' st' ∧ Step σ σ' F F' ∧ Pushed st st' v := by
  obtain ⟨σ', F', st', e, H', s, p⟩ := push_in H.at' H.wf H.ho h0 hv hp
  exact ⟨σ', F', st', e, ⟨p.wf, p.ho, by rw [p.N, p.sc]; exact H.sc, by rw [p.N]; exact H.n1, by rw [p.N]; exact H.n2, H'⟩, s, p⟩
end
end Go.Proofs.Ytcmaphhcbgdigaa.A
