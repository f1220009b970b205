/- The program's heap: Grow, New. -/
import Derived.Test.YtcmaphhcbgdigaaH5
set_option linter.all false
namespace Go.Proofs.Ytcmaphhcbgdigaa.A
open Go

def cutV (v : Int) : Nat := if 4000 < v then 4000 else v.toNat
theorem cutV_eq (v : Int) (σ : Heap) : S.assign_Cut v σ = some (cutV v : Int) := by
  unfold S.assign_Cut cutV
  congr 1
  repeat' split
  all_goals omega
theorem cutV_le (v : Int) : cutV v ≤ 4000 := by unfold cutV; split <;> omega

theorem chk_true {Rt : Type} {p : Prop} (h : p) (X : Option Rt) : chk p X = X := by unfold chk; exact if_pos h

/-- Room for one number more. -/
def HS.room (st : HS) : HS := { st with N := st.N + 1, sc := upd st.sc st.N 0, pl := upd st.pl st.N 0 }
theorem room_wf {st : HS} (w : st.WF) : st.room.WF := by
  constructor
  · intro i hi
    have := w.hs i hi
    show 0 < st.hs i ∧ st.hs i < st.N + 1 ∧ upd st.pl st.N 0 (st.hs i) = i + 1
    rw [upd_ne _ _ (by omega)]; omega
  · intro v hv h
    have hv' : v < st.N + 1 := hv
    have h' : 0 < upd st.pl st.N 0 v := h
    show upd st.pl st.N 0 v ≤ st.m ∧ st.hs (upd st.pl st.N 0 v - 1) = v
    by_cases e : v = st.N
    · subst e; rw [upd_at] at h'; omega
    · rw [upd_ne _ _ e] at h' ⊢; exact w.pl v (by omega) h'
theorem room_ho {st : HS} (w : st.WF) (ho : st.HO) : st.room.HO := by
  intro i h1 h2
  have h2' : i < st.m := h2
  have := ho i h1 h2'
  have a := w.hs i h2'; have b := w.hs ((i - 1) / 2) (by omega)
  show ¬ ah (upd st.sc st.N 0) (st.hs i) (st.hs ((i - 1) / 2))
  unfold HS.up ah at *
  rw [upd_ne _ _ (by omega), upd_ne _ _ (by omega)]; exact this

/-- What Grow comes to. -/
structure Grown (st st' : HS) (n : Nat) : Prop where
  N : st'.N = max st.N (n + 1)
  old : ∀ v, v < st.N → st'.sc v = st.sc v
  fresh : ∀ v, st.N ≤ v → v < st'.N → st'.sc v = 0
  m : st'.m + st.N = st.m + st'.N
  pl : ∀ x, x < st'.N → (0 < st'.pl x ↔ st.N ≤ x ∨ 0 < st.pl x)

section
variable {lh : Nat}

theorem grow_room {σ : Heap} {F : Nat → Prop} {st : HS} {vars : Int} (H : HIn σ lh F st) (w : st.WF) (ho : st.HO) (n1 : 1 ≤ st.N) (h : st.N ≤ cutV vars) :
    ∃ σ' F' st', S.heap_Heap_Grow.b0 (.ptr lh 0) vars () σ = some (.inl (), σ') ∧ HIn σ' lh F' st' ∧ Step σ σ' F F' ∧ Pushed st.room st' st.N := by
  have hc := cutV_le vars
  obtain ⟨ls, lp, vb, c, hl, f1, f2, f3⟩ := H.core
  obtain ⟨n1', n2, n4⟩ := c.ne
  obtain ⟨t1, t2, t3⟩ := c.lt
  unfold S.heap_Heap_Grow.b0
  simp only [nilck, fld, c.l0, lenV, cutV_eq, Option.bind_some, newK]
  rw [decide_eq_true (by omega), cond_true]
  generalize hσ1 : σ.new (.cells .rw 1 [.int .i64 0]) = σ1
  have x1 : σ1.next = σ.next + 1 := by rw [← hσ1]; rfl
  have g1 : ∀ l, l < σ.next → σ1.get l = σ.get l := fun l hl => by rw [← hσ1, new_get, if_neg (by omega)]
  have ga : σ1.get σ.next = some (.cells .rw 1 [.int .i64 0]) := by rw [← hσ1, new_get, if_pos rfl]
  rw [app_full ((g1 ls t2).trans c.s) ga (by omega)]
  generalize hσ2 : (σ1.kill ls).new (.cells .rw 1 (tabI (st.N + 1) (upd st.sc st.N 0))) = σ2
  have x2 : σ2.next = σ.next + 2 := by rw [← hσ2, new_next, kill_next, x1]
  have g2 : ∀ l, l ≠ ls → l < σ.next → σ2.get l = σ.get l := fun l a hl => by rw [← hσ2, new_get, kill_next, x1, if_neg (by omega), kill_get, if_neg a, g1 l hl]
  have s2 : σ2.get (σ.next + 1) = some (.cells .rw 1 (tabI (st.N + 1) (upd st.sc st.N 0))) := by rw [← hσ2, new_get, kill_next, x1, if_pos rfl]
  have h2 := (g2 lh n1' t1).trans c.h
  rw [ld_v h2 (k := 0 + 1) rfl, c.l1, chk_true rfl]
  generalize hσ3 : σ2.new (.cells .rw 1 [.int .i64 0]) = σ3
  have x3 : σ3.next = σ.next + 3 := by rw [← hσ3, new_next, x2]
  have g3 : ∀ l, l < σ.next + 2 → σ3.get l = σ2.get l := fun l hl => by rw [← hσ3, new_get, if_neg (by omega)]
  have gb : σ3.get σ2.next = some (.cells .rw 1 [.int .i64 0]) := by rw [← hσ3, new_get, if_pos rfl]
  rw [app_full ((g3 lp (by omega)).trans ((g2 lp (Ne.symm n4) t3).trans c.p)) gb (by omega)]
  generalize hσ4 : (σ3.kill lp).new (.cells .rw 1 (tabI (st.N + 1) (upd (nat st.pl) st.N 0))) = σ4
  have x4 : σ4.next = σ.next + 4 := by rw [← hσ4, new_next, kill_next, x3]
  have g4 : ∀ l, l ≠ lp → l < σ.next + 3 → σ4.get l = σ3.get l := fun l a hl => by rw [← hσ4, new_get, kill_next, x3, if_neg (by omega), kill_get, if_neg a]
  have p4 : σ4.get (σ.next + 3) = some (.cells .rw 1 (tabI (st.N + 1) (upd (nat st.pl) st.N 0))) := by rw [← hσ4, new_get, kill_next, x3, if_pos rfl]
  have h4 : σ4.get lh = _ := (g4 lh n2 (by omega)).trans ((g3 lh (by omega)).trans h2)
  simp only [scal]
  rw [stC_one (o := 0 + 0) h4 (by simp)]
  generalize hσ5 : σ4.set lh _ = σ5
  have h5 : σ5.get lh = some (.cells .rw 3 [.sl (σ.next + 1) 0 (st.N + 1) none, .sl lp 0 st.N none, vb]) := by rw [← hσ5, set_get, if_pos rfl, ← x1]; rfl
  rw [stC_one (o := 0 + 1) h5 (by simp)]
  generalize hσ6 : σ5.set lh _ = σ6
  have h6 : σ6.get lh = some (.cells .rw 3 [.sl (σ.next + 1) 0 (st.N + 1) none, .sl (σ.next + 3) 0 (st.N + 1) none, vb]) := by rw [← hσ6, set_get, if_pos rfl, ← x3]; rfl
  have g6 : ∀ l, l ≠ lh → σ6.get l = σ4.get l := fun l a => by rw [← hσ6, set_get, if_neg a, ← hσ5, set_get, if_neg a]
  have x6 : σ6.next = σ.next + 4 := by rw [← hσ6, set_next, ← hσ5, set_next, x4]
  have go : ∀ l, l ≠ lh → l ≠ ls → l ≠ lp → l < σ.next → σ6.get l = σ.get l := fun l a b d hl => by
    rw [g6 l a, g4 l d (by omega), g3 l (by omega), g2 l b hl]
  have s6 : σ6.get (σ.next + 1) = some (.cells .rw 1 (tabI (st.N + 1) (upd st.sc st.N 0))) := by rw [g6 _ (by omega), g4 _ (by omega) (by omega), g3 _ (by omega), s2]
  have p6 : σ6.get (σ.next + 3) = some (.cells .rw 1 (tabI (st.N + 1) (nat (upd st.pl st.N 0)))) := by rw [g6 _ (by omega), p4, ← nat_upd]; rfl
  have H6 : ∃ F6, HIn σ6 lh F6 st.room ∧ Step σ σ6 F F6 := by
    rcases H with ⟨ls', lp', lb, M, H, rfl⟩ | ⟨ls', lp', H, hm, rfl⟩
    · have e := c.h.symm.trans H.h
      simp only [Option.some.injEq, AObj.cells.injEq, List.cons.injEq, AVal.sl.injEq, true_and, and_true] at e
      obtain ⟨rfl, rfl, rfl⟩ := e
      obtain ⟨_, _, n3, _, n5, n6⟩ := H.ne
      obtain ⟨_, _, _, t4⟩ := H.lt
      refine ⟨_, .inl ⟨_, _, lb, M, ⟨h6, s6, p6, (go lb (Ne.symm n3) (Ne.symm n5) (Ne.symm n6) t4).trans H.b, H.mM, by have := H.mN; show st.m ≤ st.N + 1; omega, by show st.N + 1 ≤ 5000; omega,
        ⟨by omega, by omega, n3, by omega, by omega, by omega⟩, ⟨by omega, by omega, by omega, by omega⟩⟩, rfl⟩, ⟨by omega, fun l hl hlt => go l (fun e => hl (.inl e)) (fun e => hl (.inr (.inl e))) (fun e => hl (.inr (.inr (.inl e)))) hlt, fun l h => ?_⟩⟩
      rcases h with h | h | h | h
      · exact .inl (.inl h)
      · exact .inr (by omega)
      · exact .inr (by omega)
      · exact .inl (.inr (.inr (.inr h)))
    · have e := c.h.symm.trans H.h
      simp only [Option.some.injEq, AObj.cells.injEq, List.cons.injEq, AVal.sl.injEq, true_and, and_true] at e
      obtain ⟨rfl, rfl, rfl⟩ := e
      refine ⟨_, .inr ⟨_, _, ⟨h6, s6, p6, by show st.N + 1 ≤ 5000; omega, ⟨by omega, by omega, by omega⟩, ⟨by omega, by omega, by omega⟩⟩, hm, rfl⟩, ⟨by omega, fun l hl hlt => go l (fun e => hl (.inl e)) (fun e => hl (.inr (.inl e))) (fun e => hl (.inr (.inr (.inl e)))) hlt, fun l h => ?_⟩⟩
      rcases h with h | h | h | h
      · exact .inl (.inl h)
      · exact .inr (by omega)
      · exact .inr (by omega)
      · exact .inl (.inl h)
  obtain ⟨F6, H6, st6⟩ := H6
  obtain ⟨σ', F', st', e, H', s', p'⟩ := push_in H6 (room_wf w) (room_ho w ho) (v := st.N) (by omega) (Nat.lt_succ_self _) (by show upd st.pl st.N 0 st.N = 0; exact upd_at ..)
  refine ⟨σ', F', st', ?_, H', st6.trans s', p'⟩
  rw [ld_v h6 (k := 0 + 0) rfl]
  simp only
  have e5 : IntKind.i64.wrap (((st.N + 1 : Nat) : Int) - 1) = (st.N : Int) := by rw [wrap_small (by omega) (by omega)]; omega
  rw [e5, e]; rfl

theorem grow_stop {σ : Heap} {F : Nat → Prop} {st : HS} {vars : Int} (H : HIn σ lh F st) (h : ¬ st.N ≤ cutV vars) : S.heap_Heap_Grow.b0 (.ptr lh 0) vars () σ = some (.inr (), σ) := by
  obtain ⟨ls, lp, vb, c, hl, f1, f2, f3⟩ := H.core
  unfold S.heap_Heap_Grow.b0
  simp only [nilck, fld, c.l0, lenV, cutV_eq, Option.bind_some]
  rw [decide_eq_false (by omega), cond_false]

theorem grow_loop {vars : Int} : ∀ (n : Nat) (σ : Heap) (F : Nat → Prop) (st : HS), cutV vars + 1 ≤ st.N + n → Hp σ lh F st →
    ∃ σ' F' st', loopW (S.heap_Heap_Grow.b0 (.ptr lh 0) vars) () σ = some ((), σ') ∧ Hp σ' lh F' st' ∧ Step σ σ' F F' ∧ Grown st st' (cutV vars)
  | 0, σ, F, st, hn, H => ⟨σ, F, st, loopW_stop (grow_stop H.at' (by omega)), H, Step.refl .., ⟨by omega, fun _ _ => rfl, fun v a b => by omega, rfl, fun x hx => ⟨.inr, fun e => e.elim (fun e => by omega) id⟩⟩⟩
  | n + 1, σ, F, st, hn, H => by
    by_cases h : st.N ≤ cutV vars
    · obtain ⟨σ1, F1, st1, e1, H1, s1, p1⟩ := grow_room H.at' H.wf H.ho H.n1 h
      have hc := cutV_le vars
      have N1 : st1.N = st.N + 1 := p1.N
      have sc1 : st1.sc = upd st.sc st.N 0 := p1.sc
      have m1 : st1.m = st.m + 1 := p1.m
      obtain ⟨σ2, F2, st2, e2, H2, s2, g⟩ := grow_loop (vars := vars) n σ1 F1 st1 (by omega) ⟨p1.wf, p1.ho, fun v hv => by
        rw [sc1]; unfold upd; split
        · unfold most; omega
        · exact H.sc v (by omega), by omega, by omega, H1⟩
      refine ⟨σ2, F2, st2, loopW_next e1 e2, H2, s1.trans s2, ⟨by rw [g.N]; omega, fun v hv => ?_, fun v h1 h2 => ?_, by have := g.m; omega, fun x hx => ?_⟩⟩
      · rw [g.old v (by omega), sc1, upd_ne _ _ (by omega)]
      · by_cases e : v = st.N
        · subst e; rw [g.old _ (by omega), sc1, upd_at]
        · exact g.fresh v (by rw [N1]; omega) h2
      · rw [g.pl x hx, p1.pl x]
        show _ ∨ (0 < upd st.pl st.N 0 x ∨ _) ↔ _
        by_cases e : x = st.N
        · subst e; simp
        · rw [upd_ne _ _ e]
          constructor
          · rintro (a | a | a)
            · exact .inl (by omega)
            · exact .inr a
            · exact absurd a e
          · rintro (a | a)
            · exact .inl (by omega)
            · exact .inr (.inl a)
    · exact ⟨σ, F, st, loopW_stop (grow_stop H.at' h), H, Step.refl .., ⟨by omega, fun _ _ => rfl, fun v a b => by omega, rfl, fun x hx => ⟨.inr, fun e => e.elim (fun e => by omega) id⟩⟩⟩

theorem grow_eq {σ : Heap} {F : Nat → Prop} {st : HS} (H : Hp σ lh F st) (vars : Int) :
    ∃ σ' F' st', S.heap_Heap_Grow (.ptr lh 0) vars σ = some ((), σ') ∧ Hp σ' lh F' st' ∧ Step σ σ' F F' ∧ Grown st st' (cutV vars) := by
  obtain ⟨σ', F', st', e, r⟩ := grow_loop (vars := vars) (cutV vars + 1) σ F st (by omega) H
  refine ⟨σ', F', st', ?_, r⟩
  unfold S.heap_Heap_Grow; rw [e]; rfl
end

/-- What New comes to. -/
structure Made (st : HS) (n : Nat) : Prop where
  N : st.N = n + 1
  sc : ∀ v, v < st.N → st.sc v = 0
  m : st.m = n
  pl : ∀ x, x < st.N → (0 < st.pl x ↔ 0 < x)

theorem new_eq (σ : Heap) (vars : Int) :
    ∃ σ' lh F st, S.heap_New vars σ = some (.ptr lh 0, σ') ∧ Hp σ' lh F st ∧ Step σ σ' (fun _ => False) F ∧ Made st (cutV vars) := by
  unfold S.heap_New
  simp only [mkS, newK]
  rw [if_pos (by simp), if_pos (by simp)]
  simp only [scal]
  have r1 : rep (Int.toNat 1) [AVal.int .i64 0] = tabI 1 (fun _ => 0) := rfl
  rw [r1]
  generalize hσ1 : σ.new (.cells .rw 1 (tabI 1 fun _ => 0)) = σ1
  have x1 : σ1.next = σ.next + 1 := by rw [← hσ1]; rfl
  generalize hσ2 : σ1.new (.cells .rw 1 (tabI 1 fun _ => 0)) = σ2
  have x2 : σ2.next = σ.next + 2 := by rw [← hσ2, new_next, x1]
  have e1 : Int.toNat 1 = 1 := rfl
  rw [e1]
  generalize hσ3 : σ2.new (.cells .rw 3 [.sl σ.next 0 1 none, .sl σ1.next 0 1 none, .nils]) = σ3
  have x3 : σ3.next = σ.next + 3 := by rw [← hσ3, new_next, x2]
  have h3 : σ3.get (σ.next + 2) = some (.cells .rw 3 [.sl σ.next 0 1 none, .sl (σ.next + 1) 0 1 none, .nils]) := by rw [← hσ3, new_get, if_pos x2.symm, x1]
  have a3 : σ3.get σ.next = some (.cells .rw 1 (tabI 1 fun _ => 0)) := by rw [← hσ3, new_get, if_neg (by omega), ← hσ2, new_get, if_neg (by omega), ← hσ1, new_get, if_pos rfl]
  have b3 : σ3.get (σ.next + 1) = some (.cells .rw 1 (tabI 1 fun _ => 0)) := by rw [← hσ3, new_get, if_neg (by omega), ← hσ2, new_get, if_pos x1.symm]
  have g3 : ∀ l, l < σ.next → σ3.get l = σ.get l := fun l hl => by rw [← hσ3, new_get, if_neg (by omega), ← hσ2, new_get, if_neg (by omega), ← hσ1, new_get, if_neg (by omega)]
  have H : Hp σ3 (σ.next + 2) (foot (σ.next + 2) σ.next (σ.next + 1) (σ.next + 2)) ⟨1, 0, fun _ => 0, fun _ => 0, fun _ => 0⟩ :=
    ⟨⟨fun i hi => absurd hi (Nat.not_lt_zero _), fun v hv h => absurd h (Nat.lt_irrefl _)⟩, fun i h1 h2 => absurd h2 (Nat.not_lt_zero _), fun v _ => ⟨Int.le_refl _, by show (0 : Int) ≤ most; unfold most; omega⟩, Nat.le_refl _, by show 1 ≤ 4001; omega,
      .inr ⟨σ.next, σ.next + 1, ⟨h3, a3, b3, by show 1 ≤ 5000; omega, ⟨by omega, by omega, by omega⟩, ⟨by omega, by omega, by omega⟩⟩, rfl, rfl⟩⟩
  obtain ⟨σ', F, st, e, H', s, g⟩ := grow_eq H vars
  refine ⟨σ', σ.next + 2, F, st, ?_, H', Step.trans (F1 := foot (σ.next + 2) σ.next (σ.next + 1) (σ.next + 2)) ⟨by omega, fun l _ hl => g3 l hl, fun l h => ?_⟩ s, ⟨?_, ?_, ?_, ?_⟩⟩
  · rw [x2, e]; rfl
  · rcases h with h | h | h | h <;> exact .inr (by omega)
  · have := g.N; show st.N = _; rw [this]; show max 1 _ = _; omega
  · intro v hv
    by_cases h : v < 1
    · exact g.old v h
    · exact g.fresh v (by show 1 ≤ v; omega) hv
  · have := g.m; have := g.N; have h1 : st.m + 1 = 0 + st.N := g.m; have h2 : st.N = max 1 (cutV vars + 1) := g.N; omega
  · intro x hx
    rw [g.pl x hx]
    show 1 ≤ x ∨ 0 < 0 ↔ _
    omega
end Go.Proofs.Ytcmaphhcbgdigaa.A
