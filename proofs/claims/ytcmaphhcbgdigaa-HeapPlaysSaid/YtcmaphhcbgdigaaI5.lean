/- The reference's heap. -/
import Derived.Test.YtcmaphhcbgdigaaI4
set_option linter.all false
namespace Go.Proofs.Ytcmaphhcbgdigaa.A
open Go

structure RAt (σ : Heap) (lx rs ri N : Nat) (sc : Nat → Int) (inn : Nat → Bool) : Prop where
  h : σ.get lx = some (.cells .rw 2 [.sl rs 0 N none, .sl ri 0 N none])
  s : σ.get rs = some (.cells .rw 1 (tabI N sc))
  i : σ.get ri = some (.cells .rw 1 (tabB N inn))
  ne : lx ≠ rs ∧ lx ≠ ri ∧ rs ≠ ri
  lt : lx < σ.next ∧ rs < σ.next ∧ ri < σ.next
def footR (lx rs ri : Nat) : Nat → Prop := fun l => l = lx ∨ l = rs ∨ l = ri
structure RHp (σ : Heap) (lx : Nat) (G : Nat → Prop) (N : Nat) (sc : Nat → Int) (inn : Nat → Bool) : Prop where
  at' : ∃ rs ri, RAt σ lx rs ri N sc inn ∧ G = footR lx rs ri
  n1 : 1 ≤ N
  n2 : N ≤ 4001
  sc : ∀ v, v < N → 0 ≤ sc v ∧ sc v ≤ most

theorem RHp.lt {σ : Heap} {lx : Nat} {G : Nat → Prop} {N : Nat} {sc : Nat → Int} {inn : Nat → Bool} (H : RHp σ lx G N sc inn) {l : Nat} (h : G l) : l < σ.next := by
  obtain ⟨rs, ri, A, rfl⟩ := H.at'
  rcases h with rfl | rfl | rfl
  · exact A.lt.1
  · exact A.lt.2.1
  · exact A.lt.2.2
theorem RHp.keep {σ σ' : Heap} {lx : Nat} {G : Nat → Prop} {N : Nat} {sc : Nat → Int} {inn : Nat → Bool} (H : RHp σ lx G N sc inn) (hn : σ.next ≤ σ'.next) (hg : ∀ l, G l → σ'.get l = σ.get l) : RHp σ' lx G N sc inn := by
  obtain ⟨rs, ri, A, rfl⟩ := H.at'
  exact ⟨⟨rs, ri, ⟨(hg _ (.inl rfl)).trans A.h, (hg _ (.inr (.inl rfl))).trans A.s, (hg _ (.inr (.inr rfl))).trans A.i, A.ne, ⟨by have := A.lt.1; omega, by have := A.lt.2.1; omega, by have := A.lt.2.2; omega⟩⟩, rfl⟩, H.n1, H.n2, H.sc⟩

section
variable {Rt : Type}
theorem tabB_succ (n : Nat) (f : Nat → Bool) : tabB (n + 1) f = tabB n f ++ [.bool (f n)] := by unfold tabB; rw [List.range_succ, List.map_append]; rfl
theorem tabB_congr {n : Nat} {f g : Nat → Bool} (h : ∀ i, i < n → f i = g i) : tabB n f = tabB n g := by
  apply List.map_congr_left; intro i hi; rw [h i (List.mem_range.1 hi)]
theorem tabB_push (n : Nat) (f : Nat → Bool) (x : Bool) : tabB n f ++ [.bool x] = tabB (n + 1) (upd f n x) := by
  rw [tabB_succ, upd_at, tabB_congr (f := upd f n x) (g := f) fun i hi => upd_ne _ _ (by omega)]
theorem app_fullB {σ : Heap} {l n : Nat} {f : Nat → Bool} {x : Bool} {la : Nat} (hg : σ.get l = some (.cells .rw 1 (tabB n f))) (ha : σ.get la = some (.cells .rw 1 [.bool x])) (hn : n < 1000000) (K : AVal → Heap → Option Rt) :
    appS σ 1 1 (.sl l 0 n none) (.sl la 0 1 none) K = K (.sl σ.next 0 (n + 1) none) ((σ.kill l).new (.cells .rw 1 (tabB (n + 1) (upd f n x)))) := by
  have hl : (tabB n f).length = n := by simp
  simp only [appS, srcK, ha, appC, hg, newK, kill_next]
  rw [if_pos (by simp), if_pos (by simp), if_neg (by simp), if_pos (by omega), if_pos True.intro, if_neg (by rw [hl]; omega)]
  simp only [Nat.zero_mul, List.drop_zero, Nat.one_mul, Nat.mul_one, List.take_one, List.head?_cons, Option.toList]
  rw [List.take_of_length_le (by rw [hl]; omega), tabB_push]
end

section
variable {σ : Heap} {lx rs ri N : Nat} {sc : Nat → Int} {inn : Nat → Bool} {Rt : Type}
theorem RAt.l0 (H : RAt σ lx rs ri N sc inn) (K : AVal → Option Rt) : ld σ (.ptr lx (0 + 0)) .V K = K (.sl rs 0 N none) := ld_v H.h rfl K
theorem RAt.l1 (H : RAt σ lx rs ri N sc inn) (K : AVal → Option Rt) : ld σ (.ptr lx (0 + 1)) .V K = K (.sl ri 0 N none) := ld_v H.h rfl K
end

/-- What Grow comes to. -/
structure RGrown (N N' n : Nat) (sc sc' : Nat → Int) (inn inn' : Nat → Bool) : Prop where
  hN : N' = max N (n + 1)
  old : ∀ v, v < N → sc' v = sc v ∧ inn' v = inn v
  fresh : ∀ v, N ≤ v → v < N' → sc' v = 0 ∧ inn' v = true

theorem rgrow_loop {lx n : Nat} (hn : n ≤ 4000) : ∀ (k : Nat) (σ : Heap) (G : Nat → Prop) (N : Nat) (sc : Nat → Int) (inn : Nat → Bool), n + 1 ≤ N + k → RHp σ lx G N sc inn →
    ∃ σ' G' N' sc' inn', loopW (S.skolemref8_Heap_Grow.b0 (.ptr lx 0) (n : Int)) () σ = some ((), σ') ∧ RHp σ' lx G' N' sc' inn' ∧ Step σ σ' G G' ∧ RGrown N N' n sc sc' inn inn'
  | 0, σ, G, N, sc, inn, hk, H => by
    obtain ⟨rs, ri, A, _⟩ := H.at'
    refine ⟨σ, G, N, sc, inn, loopW_stop ?_, H, Step.refl .., ⟨by omega, fun _ _ => ⟨rfl, rfl⟩, fun v a b => by omega⟩⟩
    unfold S.skolemref8_Heap_Grow.b0
    simp only [nilck, fld, A.l0, lenV]
    rw [decide_eq_false (by omega), cond_false]
  | k + 1, σ, G, N, sc, inn, hk, H => by
    obtain ⟨rs, ri, A, hG⟩ := H.at'
    by_cases h : N ≤ n
    · obtain ⟨n1, n2, n3⟩ := A.ne
      obtain ⟨t1, t2, t3⟩ := A.lt
      have round : ∃ σ' G', S.skolemref8_Heap_Grow.b0 (.ptr lx 0) (n : Int) () σ = some (.inl (), σ') ∧ RHp σ' lx G' (N + 1) (upd sc N 0) (upd inn N true) ∧ Step σ σ' G G' := by
        unfold S.skolemref8_Heap_Grow.b0
        simp only [nilck, fld, A.l0, lenV, newK]
        rw [decide_eq_true (by omega), cond_true]
        generalize hσ1 : σ.new (.cells .rw 1 [.int .i64 0]) = σ1
        have x1 : σ1.next = σ.next + 1 := by rw [← hσ1]; rfl
        have g1 : ∀ l, l < σ.next → σ1.get l = σ.get l := fun l hl => by rw [← hσ1, new_get, if_neg (by omega)]
        have ga : σ1.get σ.next = some (.cells .rw 1 [.int .i64 0]) := by rw [← hσ1, new_get, if_pos rfl]
        rw [app_full ((g1 rs t2).trans A.s) ga (by omega)]
        generalize hσ2 : (σ1.kill rs).new (.cells .rw 1 (tabI (N + 1) (upd sc N 0))) = σ2
        have x2 : σ2.next = σ.next + 2 := by rw [← hσ2, new_next, kill_next, x1]
        have g2 : ∀ l, l ≠ rs → l < σ.next → σ2.get l = σ.get l := fun l a hl => by rw [← hσ2, new_get, kill_next, x1, if_neg (by omega), kill_get, if_neg a, g1 l hl]
        have s2 : σ2.get (σ.next + 1) = some (.cells .rw 1 (tabI (N + 1) (upd sc N 0))) := by rw [← hσ2, new_get, kill_next, x1, if_pos rfl]
        have h2 := (g2 lx n1 t1).trans A.h
        simp only [scal]
        rw [stC_one (o := 0 + 0) h2 (by simp)]
        generalize hσ3 : σ2.set lx _ = σ3
        have x3 : σ3.next = σ.next + 2 := by rw [← hσ3, set_next, x2]
        have h3 : σ3.get lx = some (.cells .rw 2 [.sl (σ.next + 1) 0 (N + 1) none, .sl ri 0 N none]) := by rw [← hσ3, set_get, if_pos rfl, ← x1]; rfl
        have g3 : ∀ l, l ≠ lx → σ3.get l = σ2.get l := fun l a => by rw [← hσ3, set_get, if_neg a]
        rw [ld_v h3 (k := 0 + 1) rfl]
        generalize hσ4 : σ3.new (.cells .rw 1 [.bool true]) = σ4
        have x4 : σ4.next = σ.next + 3 := by rw [← hσ4, new_next, x3]
        have g4 : ∀ l, l < σ.next + 2 → σ4.get l = σ3.get l := fun l hl => by rw [← hσ4, new_get, if_neg (by omega)]
        have gb : σ4.get σ3.next = some (.cells .rw 1 [.bool true]) := by rw [← hσ4, new_get, if_pos rfl]
        have i4 : σ4.get ri = some (.cells .rw 1 (tabB N inn)) := by rw [g4 ri (by omega), g3 ri (Ne.symm n2), g2 ri (Ne.symm n3) t3]; exact A.i
        rw [app_fullB i4 gb (by omega)]
        generalize hσ5 : (σ4.kill ri).new (.cells .rw 1 (tabB (N + 1) (upd inn N true))) = σ5
        have x5 : σ5.next = σ.next + 4 := by rw [← hσ5, new_next, kill_next, x4]
        have g5 : ∀ l, l ≠ ri → l < σ.next + 3 → σ5.get l = σ4.get l := fun l a hl => by rw [← hσ5, new_get, kill_next, x4, if_neg (by omega), kill_get, if_neg a]
        have i5 : σ5.get (σ.next + 3) = some (.cells .rw 1 (tabB (N + 1) (upd inn N true))) := by rw [← hσ5, new_get, kill_next, x4, if_pos rfl]
        have h5 := (g5 lx n2 (by omega)).trans ((g4 lx (by omega)).trans h3)
        rw [stC_one (o := 0 + 1) h5 (by simp)]
        generalize hσ6 : σ5.set lx _ = σ6
        have h6 : σ6.get lx = some (.cells .rw 2 [.sl (σ.next + 1) 0 (N + 1) none, .sl (σ.next + 3) 0 (N + 1) none]) := by rw [← hσ6, set_get, if_pos rfl, ← x4]; rfl
        have g6 : ∀ l, l ≠ lx → σ6.get l = σ5.get l := fun l a => by rw [← hσ6, set_get, if_neg a]
        have x6 : σ6.next = σ.next + 4 := by rw [← hσ6, set_next, x5]
        refine ⟨σ6, footR lx (σ.next + 1) (σ.next + 3), rfl, ⟨⟨_, _, ⟨h6, ?_, ?_, ⟨by omega, by omega, by omega⟩, ⟨by omega, by omega, by omega⟩⟩, rfl⟩, by omega, by omega, fun v hv => ?_⟩, ⟨by omega, fun l hl hlt => ?_, fun l h => ?_⟩⟩
        · rw [g6 _ (by omega), g5 _ (by omega) (by omega), g4 _ (by omega), g3 _ (by omega), s2]
        · rw [g6 _ (by omega), i5]
        · unfold upd; split
          · unfold most; omega
          · exact H.sc v (by omega)
        · subst hG
          rw [g6 l (fun e => hl (.inl e)), g5 l (fun e => hl (.inr (.inr e))) (by omega), g4 l (by omega), g3 l (fun e => hl (.inl e)), g2 l (fun e => hl (.inr (.inl e))) hlt]
        · subst hG
          rcases h with h | h | h
          · exact .inl (.inl h)
          · exact .inr (by omega)
          · exact .inr (by omega)
      obtain ⟨σ1, G1, e1, H1, s1⟩ := round
      obtain ⟨σ2, G2, N2, sc2, inn2, e2, H2, s2, g⟩ := rgrow_loop hn k σ1 G1 (N + 1) _ _ (by omega) H1
      refine ⟨σ2, G2, N2, sc2, inn2, loopW_next e1 e2, H2, s1.trans s2, ⟨by rw [g.hN]; omega, fun v hv => ?_, fun v h1 h2 => ?_⟩⟩
      · have := g.old v (by omega)
        rw [upd_ne _ _ (by omega), upd_ne _ _ (by omega)] at this; exact this
      · by_cases e : v = N
        · subst e
          have := g.old v (by omega)
          rw [upd_at, upd_at] at this; exact this
        · exact g.fresh v (by omega) h2
    · refine ⟨σ, G, N, sc, inn, loopW_stop ?_, H, Step.refl .., ⟨by omega, fun _ _ => ⟨rfl, rfl⟩, fun v a b => by omega⟩⟩
      unfold S.skolemref8_Heap_Grow.b0
      simp only [nilck, fld, A.l0, lenV]
      rw [decide_eq_false (by omega), cond_false]

section
variable {σ : Heap} {lx : Nat} {G : Nat → Prop} {N : Nat} {sc : Nat → Int} {inn : Nat → Bool}

theorem rgrow_eq (H : RHp σ lx G N sc inn) (vars : Int) :
    ∃ σ' G' N' sc' inn', S.skolemref8_Heap_Grow (.ptr lx 0) vars σ = some ((), σ') ∧ RHp σ' lx G' N' sc' inn' ∧ Step σ σ' G G' ∧ RGrown N N' (cutV vars) sc sc' inn inn' := by
  obtain ⟨σ', G', N', sc', inn', e, r⟩ := rgrow_loop (cutV_le vars) (cutV vars + 1) σ G N sc inn (by omega) H
  refine ⟨σ', G', N', sc', inn', ?_, r⟩
  unfold S.skolemref8_Heap_Grow
  have : (if 4000 < (if 0 > vars then 0 else vars) then 4000 else (if 0 > vars then 0 else vars)) = (cutV vars : Int) := by
    unfold cutV; repeat' split
    all_goals omega
  rw [this, e]; rfl

theorem rnew_eq (σ : Heap) (vars : Int) :
    ∃ σ' lx G N sc inn, S.skolemref8_NewHeap vars σ = some (.ptr lx 0, σ') ∧ RHp σ' lx G N sc inn ∧ Step σ σ' (fun _ => False) G ∧ N = cutV vars + 1 ∧ (∀ v, v < N → sc v = 0) ∧ ∀ v, 0 < v → v < N → inn v = true := by
  unfold S.skolemref8_NewHeap
  simp only [newK]
  generalize hσ1 : σ.new (.cells .rw 1 [.int .i64 0]) = σ1
  have x1 : σ1.next = σ.next + 1 := by rw [← hσ1]; rfl
  generalize hσ2 : σ1.new (.cells .rw 1 [.bool false]) = σ2
  have x2 : σ2.next = σ.next + 2 := by rw [← hσ2, new_next, x1]
  generalize hσ3 : σ2.new (.cells .rw 2 [.sl σ.next 0 1 none, .sl σ1.next 0 1 none]) = σ3
  have x3 : σ3.next = σ.next + 3 := by rw [← hσ3, new_next, x2]
  have h3 : σ3.get (σ.next + 2) = some (.cells .rw 2 [.sl σ.next 0 1 none, .sl (σ.next + 1) 0 1 none]) := by rw [← hσ3, new_get, if_pos x2.symm, x1]
  have a3 : σ3.get σ.next = some (.cells .rw 1 (tabI 1 fun _ => 0)) := by rw [← hσ3, new_get, if_neg (by omega), ← hσ2, new_get, if_neg (by omega), ← hσ1, new_get, if_pos rfl]; rfl
  have b3 : σ3.get (σ.next + 1) = some (.cells .rw 1 (tabB 1 fun _ => false)) := by rw [← hσ3, new_get, if_neg (by omega), ← hσ2, new_get, if_pos x1.symm]; rfl
  have g3 : ∀ l, l < σ.next → σ3.get l = σ.get l := fun l hl => by rw [← hσ3, new_get, if_neg (by omega), ← hσ2, new_get, if_neg (by omega), ← hσ1, new_get, if_neg (by omega)]
  have H : RHp σ3 (σ.next + 2) (footR (σ.next + 2) σ.next (σ.next + 1)) 1 (fun _ => 0) (fun _ => false) :=
    ⟨⟨_, _, ⟨h3, a3, b3, ⟨by omega, by omega, by omega⟩, ⟨by omega, by omega, by omega⟩⟩, rfl⟩, Nat.le_refl _, by omega, fun v _ => ⟨Int.le_refl _, by unfold most; omega⟩⟩
  obtain ⟨σ', G, N, sc, inn, e, H', s, g⟩ := rgrow_eq H vars
  refine ⟨σ', σ.next + 2, G, N, sc, inn, ?_, H', Step.trans (F1 := footR (σ.next + 2) σ.next (σ.next + 1)) ⟨by omega, fun l _ hl => g3 l hl, fun l h => ?_⟩ s, by rw [g.hN]; omega, fun v hv => ?_, fun v h0 hv => ?_⟩
  · rw [x2, e]; rfl
  · rcases h with h | h | h <;> exact .inr (by omega)
  · by_cases h : v < 1
    · exact (g.old v h).1
    · exact (g.fresh v (by omega) hv).1
  · exact (g.fresh v (by omega) hv).2

theorem ris_eq (H : RHp σ lx G N sc inn) (v : Int) : S.skolemref8_Heap_is (.ptr lx 0) v σ = some (decide (0 < v ∧ v < N)) := by
  obtain ⟨rs, ri, A, _⟩ := H.at'
  unfold S.skolemref8_Heap_is
  by_cases hv : v > 0
  · simp only [hv, decide_true, cond_true, nilck, fld, A.l0, lenV, Option.bind_some]
    simp
  · simp [hv]

theorem rpush_no (H : RHp σ lx G N sc inn) {v : Int} (h : ¬ (0 < v ∧ v < N ∧ inn v.toNat = false)) : S.skolemref8_Heap_Push (.ptr lx 0) v σ = some (false, σ) := by
  obtain ⟨rs, ri, A, _⟩ := H.at'
  unfold S.skolemref8_Heap_Push
  rw [ris_eq H]
  by_cases h2 : 0 < v ∧ v < N
  · simp only [Option.bind_some, h2, and_self, decide_true, Bool.not_true, cond_false, nilck, fld, A.l1]
    rw [ix_int A.i (by omega) h2.2, ld_tabB A.i (by omega)]
    have : inn v.toNat = true := by cases hb : inn v.toNat with
      | true => rfl
      | false => exact absurd ⟨h2.1, h2.2, hb⟩ h
    simp [this]
  · simp [h2]
theorem rpush_yes (H : RHp σ lx G N sc inn) {v : Nat} (h0 : 0 < v) (hv : v < N) (hi : inn v = false) :
    ∃ σ', S.skolemref8_Heap_Push (.ptr lx 0) v σ = some (true, σ') ∧ RHp σ' lx G N sc (upd inn v true) ∧ Step σ σ' G G := by
  obtain ⟨rs, ri, A, rfl⟩ := H.at'
  obtain ⟨n1, n2, n3⟩ := A.ne
  unfold S.skolemref8_Heap_Push
  rw [ris_eq H, decide_eq_true (show (0 : Int) < v ∧ (v : Int) < N from ⟨by omega, by omega⟩)]
  simp only [Option.bind_some, Bool.not_true, cond_false, nilck, fld, A.l1]
  rw [ix_one A.i hv, ld_tabB A.i hv, hi]
  simp only [Option.bind_some, cond_false]
  rw [ix_one A.i hv, stC_one A.i (by simp; omega), tabB_set]
  refine ⟨_, rfl, ⟨⟨rs, ri, ⟨?_, ?_, ?_, A.ne, A.lt⟩, rfl⟩, H.n1, H.n2, H.sc⟩, ⟨Nat.le_refl _, fun l hl _ => ?_, fun l h => .inl h⟩⟩
  · rw [set_get, if_neg n2]; exact A.h
  · rw [set_get, if_neg n3]; exact A.s
  · rw [set_get, if_pos rfl]
  · rw [set_get, if_neg (fun e => hl (.inr (.inr e)))]

theorem rbump_no (H : RHp σ lx G N sc inn) {v : Int} (h : ¬ (0 < v ∧ v < N)) (b : Int) : S.skolemref8_Heap_Bump (.ptr lx 0) v b σ = some (0, σ) := by
  unfold S.skolemref8_Heap_Bump
  rw [ris_eq H]; simp [h]
theorem bumped_eq {s b : Int} (h0 : 0 ≤ s) (h1 : s ≤ most) : bumped s b = if b > 1099511627776 - s then 1099511627776 else if 0 > s + b then 0 else s + b := by
  unfold bumped clampSc clampBy most at *
  repeat' split
  all_goals omega
theorem rbump_yes (H : RHp σ lx G N sc inn) {v : Nat} (h0 : 0 < v) (hv : v < N) {b : Int} (hb : -9223372036854775808 ≤ b ∧ b ≤ 9223372036854775807) :
    ∃ σ', S.skolemref8_Heap_Bump (.ptr lx 0) v b σ = some (bumped (sc v) b, σ') ∧ RHp σ' lx G N (upd sc v (bumped (sc v) b)) inn ∧ Step σ σ' G G := by
  obtain ⟨rs, ri, A, rfl⟩ := H.at'
  obtain ⟨n1, n2, n3⟩ := A.ne
  have hs := H.sc v hv
  have hbe := bumped_eq (b := b) hs.1 hs.2
  have hcl := clampSc_le (sc v + clampBy b)
  unfold most at hs
  have fin : ∀ x : Int, ∃ σ', σ' = σ.set rs (.cells .rw 1 (tabI N (upd sc v x))) ∧ RAt σ' lx rs ri N (upd sc v x) inn ∧ Step σ σ' (footR lx rs ri) (footR lx rs ri) := by
    intro x
    refine ⟨_, rfl, ⟨?_, ?_, ?_, A.ne, A.lt⟩, ⟨Nat.le_refl _, fun l hl _ => ?_, fun l h => .inl h⟩⟩
    · rw [set_get, if_neg n1]; exact A.h
    · rw [set_get, if_pos rfl]
    · rw [set_get, if_neg (Ne.symm n3)]; exact A.i
    · rw [set_get, if_neg (fun e => hl (.inr (.inl e)))]
  obtain ⟨σ', hσ', A', s'⟩ := fin (bumped (sc v) b)
  refine ⟨σ', ?_, ⟨⟨rs, ri, A', rfl⟩, H.n1, H.n2, fun x hx => ?_⟩, s'⟩
  · unfold S.skolemref8_Heap_Bump
    rw [ris_eq H, decide_eq_true (show (0 : Int) < v ∧ (v : Int) < N from ⟨by omega, by omega⟩)]
    simp only [Option.bind_some, Bool.not_true, cond_false, nilck, fld, A.l0]
    rw [ix_one A.s hv, ld_arr A.s hv, wrap_small (n := 1099511627776 - sc v) (by omega) (by omega)]
    by_cases h : b > 1099511627776 - sc v
    · rw [decide_eq_true h, cond_true, ix_one A.s hv, st_arr A.s hv]
      rw [if_pos h] at hbe
      rw [hbe] at hσ' A' ⊢
      rw [← hσ']
      simp only [Option.bind_some]
      rw [A'.l0, ix_one A'.s hv, ld_arr A'.s hv, upd_at]
    · rw [decide_eq_false h, cond_false, ix_one A.s hv, ld_arr A.s hv, wrap_small (n := sc v + b) (by omega) (by omega), ix_one A.s hv, st_arr A.s hv]
      rw [if_neg h] at hbe
      rw [hbe] at hσ' A' ⊢
      rw [← hσ']
      simp only [Option.bind_some]
      rw [A'.l0, ix_one A'.s hv, ld_arr A'.s hv, upd_at]
  · unfold upd; split
    · exact hcl
    · exact H.sc x hx
end
end Go.Proofs.Ytcmaphhcbgdigaa.A
