/- Regions whose order is open: the abstract run, step by step. -/
import Derived.Test.YtgneblbblihaoaaDoorB3
set_option linter.all false
namespace Go.Proofs.YtgneblbblihaoaaDoor.A
open Go Go.RowKit

def Runs (C : Cx) (e : Env) (o : Oper) (σ : Heap) (v : AVal) : Prop := ∃ σ', ∀ (R2 : Type) (K2 : AVal → Heap → Option R2), dop C e o σ K2 = K2 v σ'

def noisy (C : Cx) (o : Oper) : Bool := !pureOp C.calls o && !allocOp o

structure StepOk (C : Cx) (all : List Oper) (o : Oper) (E E' : Env) (H H' σ σ' : Heap) (W : Bool) (V : AVal) : Prop where
  dst : ∀ t, o.dst = some t → t < C.n
  env : ∀ x, E'.get x = if o.dst = some x then some V else E.get x
  guard : o.guard = none → W = true
  guarded : ∀ j want, o.guard = some (j, want) → ∃ oj t, all[j]? = some oj ∧ oj.dst = some t ∧ ((∃ c, E.get t = some (.bool c) ∧ W = (c == want)) ∨ (E.get t = some (.tup []) ∧ W = false))
  off : W = false → V = .tup [] ∧ σ' = σ ∧ H' = H
  pure : W = true → pureOp C.calls o = true → Runs C (E.only (opTmps o)) o H V ∧ σ' = σ ∧ H' = H
  alloc : W = true → pureOp C.calls o = false → allocOp o = true → (∀ (R2 : Type) (K2 : AVal → Heap → Option R2), dop C (E.only (opTmps o)) o σ K2 = K2 V σ') ∧ H' = H
  noisy : W = true → noisy C o = true → (∀ (R2 : Type) (K2 : AVal → Heap → Option R2), dop C (E.only (opTmps o)) o σ K2 = K2 V σ') ∧ H' = σ'
  next : Grw σ σ'

structure RunOk (C : Cx) (all : List Oper) (ms : List Nat) (os : List Oper) (k : Nat) (ps : List Pend) (hs : List (Nat × Heap)) (E : Nat → Env) (H Z : Nat → Heap) (W : Nat → Bool) (V : Nat → AVal) : Prop where
  step : ∀ (i : Nat) (o : Oper), os[i]? = some o → StepOk C all o (E i) (E (i + 1)) (H i) (H (i + 1)) (Z i) (Z (i + 1)) (W i) (V i)
  pend : ∀ p ∈ ps, ∀ (j : Nat) (o : Oper), os[j]? = some o → W j = true → noisy C o = true → ahead ms p.i (k + j) = false → Runs C p.e p.o (Z (j + 1)) p.v
  past : ∀ h ∈ hs, ∀ (i : Nat) (o : Oper), os[i]? = some o → W i = true → pureOp C.calls o = true → readsOp C o = true → ahead ms h.1 (k + i) = false → Runs C ((E i).only (opTmps o)) o h.2 (V i)
  fwd : ∀ (i j : Nat) (oi oj : Oper), i < j → os[i]? = some oi → os[j]? = some oj → W i = true → W j = true → pureOp C.calls oi = true → readsOp C oi = true → noisy C oj = true → ahead ms (k + i) (k + j) = false → Runs C ((E i).only (opTmps oi)) oi (Z (j + 1)) (V i)
  bwd : ∀ (i j : Nat) (oi oj : Oper), j < i → os[i]? = some oi → os[j]? = some oj → W i = true → W j = true → pureOp C.calls oi = true → readsOp C oi = true → noisy C oj = true → ahead ms (k + j) (k + i) = false → Runs C ((E i).only (opTmps oi)) oi (H j) (V i)

def cons {α : Type} (x : α) (f : Nat → α) : Nat → α
  | 0 => x
  | n + 1 => f n

theorem rechk_spec {C : Cx} (hN : ∀ f s, C.calls f = some s → ∀ args σ v σ', s.run args σ = some (v, σ') → Grw σ σ') {ms : List Nat} {k : Nat} {σ : Heap} {Rt : Type} {r : Rt} : ∀ (ps : List Pend) (X : Option Rt), rechk C ms k σ ps X = some r →
    X = some r ∧ ∀ p ∈ ps, ahead ms p.i k = false → Runs C p.e p.o σ p.v
  | [], X, h => ⟨h, by simp⟩
  | p :: ps, X, h => by
    simp only [rechk] at h
    cases hb : ahead ms p.i k with
    | true =>
      rw [hb] at h
      obtain ⟨h1, h2⟩ := rechk_spec hN ps X h
      exact ⟨h1, fun q hq ha => by
        rcases List.mem_cons.1 hq with e | e
        · subst e; rw [hb] at ha; cases ha
        · exact h2 q e ha⟩
    | false =>
      rw [hb] at h
      simp only [cond_false] at h
      obtain ⟨v, σ', h1, h2, _⟩ := dop_det hN h
      obtain ⟨h3, h4⟩ := chk_spec h1
      obtain ⟨h5, h6⟩ := rechk_spec hN ps X h4
      exact ⟨h5, fun q hq ha => by
        rcases List.mem_cons.1 hq with e | e
        · subst e; exact ⟨σ', fun R2 K2 => by rw [h2 K2, h3]⟩
        · exact h6 q e ha⟩

theorem backs_spec {C : Cx} (hN : ∀ f s, C.calls f = some s → ∀ args σ v σ', s.run args σ = some (v, σ') → Grw σ σ') {ms : List Nat} {k : Nat} {e : Env} {o : Oper} {v : AVal} {Rt : Type} {r : Rt} : ∀ (hs : List (Nat × Heap)) (X : Option Rt), backs C ms k e o v hs X = some r →
    X = some r ∧ ∀ h ∈ hs, ahead ms h.1 k = false → Runs C e o h.2 v
  | [], X, h => ⟨h, by simp⟩
  | x :: hs, X, h => by
    simp only [backs] at h
    cases hb : ahead ms x.1 k with
    | true =>
      rw [hb] at h
      obtain ⟨h1, h2⟩ := backs_spec hN hs X h
      exact ⟨h1, fun q hq ha => by
        rcases List.mem_cons.1 hq with e | e
        · subst e; rw [hb] at ha; cases ha
        · exact h2 q e ha⟩
    | false =>
      rw [hb] at h
      simp only [cond_false] at h
      obtain ⟨u, σ', h1, h2, _⟩ := dop_det hN h
      obtain ⟨h3, h4⟩ := chk_spec h1
      obtain ⟨h5, h6⟩ := backs_spec hN hs X h4
      exact ⟨h5, fun q hq ha => by
        rcases List.mem_cons.1 hq with e | e
        · subst e; exact ⟨σ', fun R2 K2 => by rw [h2 K2, h3]⟩
        · exact h6 q e ha⟩

/-- One step ahead of a run. -/
theorem RunOk.cons {C : Cx} {all : List Oper} {ms : List Nat} {o : Oper} {os : List Oper} {k : Nat} {ps ps' : List Pend} {hs hs' : List (Nat × Heap)} {E : Nat → Env} {H Z : Nat → Heap} {W : Nat → Bool} {V : Nat → AVal} {e : Env} {h σ : Heap} {w : Bool} {v : AVal}
    (hr : RunOk C all ms os (k + 1) ps' hs' E H Z W V) (hs0 : StepOk C all o e (E 0) h (H 0) σ (Z 0) w v)
    (hps : ∀ p ∈ ps, p ∈ ps') (hhs : ∀ x ∈ hs, x ∈ hs')
    (hp : w = true → noisy C o = true → ∀ p ∈ ps, ahead ms p.i k = false → Runs C p.e p.o (Z 0) p.v)
    (hb : w = true → pureOp C.calls o = true → readsOp C o = true → ∀ x ∈ hs, ahead ms x.1 k = false → Runs C (e.only (opTmps o)) o x.2 v)
    (hp' : w = true → pureOp C.calls o = true → readsOp C o = true → ⟨k, e.only (opTmps o), o, v⟩ ∈ ps') (hh' : w = true → noisy C o = true → (k, h) ∈ hs') :
    RunOk C all ms (o :: os) k ps hs (A.cons e E) (A.cons h H) (A.cons σ Z) (A.cons w W) (A.cons v V) := by
  refine ⟨fun i o' hi => ?_, fun p hpp j o' hj hw hn ha => ?_, fun x hx i o' hi hw hpu hrd ha => ?_, fun i j oi oj hij hi hj hwi hwj hpu hrd hn ha => ?_, fun i j oi oj hij hi hj hwi hwj hpu hrd hn ha => ?_⟩
  · cases i with
    | zero => simp at hi; subst hi; exact hs0
    | succ i => exact hr.step i o' (by simpa using hi)
  · cases j with
    | zero => simp at hj; subst hj; exact hp hw hn p hpp ha
    | succ j => exact hr.pend p (hps p hpp) j o' (by simpa using hj) hw hn (by rw [show k + 1 + j = k + (j + 1) by omega]; exact ha)
  · cases i with
    | zero => simp at hi; subst hi; exact hb hw hpu hrd x hx ha
    | succ i => exact hr.past x (hhs x hx) i o' (by simpa using hi) hw hpu hrd (by rw [show k + 1 + i = k + (i + 1) by omega]; exact ha)
  · cases j with
    | zero => omega
    | succ j =>
      cases i with
      | zero =>
        simp at hi; subst hi
        exact hr.pend ⟨k, e.only (opTmps o), o, v⟩ (hp' hwi hpu hrd) j oj (by simpa using hj) hwj hn (by rw [show k + 1 + j = k + (j + 1) by omega]; exact ha)
      | succ i => exact hr.fwd i j oi oj (by omega) (by simpa using hi) (by simpa using hj) hwi hwj hpu hrd hn (by rw [show k + 1 + j = k + (j + 1) by omega, show k + 1 + i = k + (i + 1) by omega]; exact ha)
  · cases i with
    | zero => omega
    | succ i =>
      cases j with
      | zero =>
        simp at hj; subst hj
        exact hr.past (k, h) (hh' hwj hn) i oi (by simpa using hi) hwi hpu hrd (by rw [show k + 1 + i = k + (i + 1) by omega]; exact ha)
      | succ j => exact hr.bwd i j oi oj (by omega) (by simpa using hi) (by simpa using hj) hwi hwj hpu hrd hn (by rw [show k + 1 + j = k + (j + 1) by omega, show k + 1 + i = k + (i + 1) by omega]; exact ha)

theorem ddops_run {C : Cx} (hN : ∀ f s, C.calls f = some s → ∀ args σ v σ', s.run args σ = some (v, σ') → Grw σ σ') {all : List Oper} {ms : List Nat} {Rt : Type} {K : Env → Heap → Option Rt} {r : Rt} : ∀ (os : List Oper) (k : Nat) (e : Env) (h σ : Heap) (ps : List Pend) (hs : List (Nat × Heap)),
    ddops C all ms os k e h σ ps hs K = some r → ∃ E H Z W V, K (E os.length) (Z os.length) = some r ∧ (∀ x, (E 0).get x = e.get x) ∧ H 0 = h ∧ Z 0 = σ ∧ RunOk C all ms os k ps hs E H Z W V
  | [], k, e, h, σ, ps, hs, hd => ⟨fun _ => e, fun _ => h, fun _ => σ, fun _ => true, fun _ => .nilp, hd, fun _ => rfl, rfl, rfl, ⟨fun i o hi => by simp at hi, fun p _ j o hj => by simp at hj, fun x _ i o hi => by simp at hi, fun i j oi oj _ hi => by simp at hi, fun i j oi oj _ hi => by simp at hi⟩⟩
  | o :: os, k, e, h, σ, ps, hs, hd => by
    simp only [ddops] at hd
    cases hb : dstOk C.n o.dst with
    | false => rw [hb] at hd; cases hd
    | true =>
      rw [hb] at hd
      simp only [cond_true] at hd
      have hdst : ∀ t, o.dst = some t → t < C.n := fun t ht => by rw [ht] at hb; simpa [dstOk, Nat.blt_eq] using hb
      -- carried out
      have here : ∀ e1 : Env, (∀ x, e1.get x = e.get x) → (∀ j want, o.guard = some (j, want) → ∃ oj t, all[j]? = some oj ∧ oj.dst = some t ∧ ∃ c, e1.get t = some (.bool c) ∧ true = (c == want)) →
          (bif pureOp C.calls o then
            dop C (e1.only (opTmps o)) o h fun v _ => bif readsOp C o then backs C ms k (e1.only (opTmps o)) o v hs (ddops C all ms os (k + 1) (e1.put o.dst v) h σ (⟨k, e1.only (opTmps o), o, v⟩ :: ps) hs K)
              else ddops C all ms os (k + 1) (e1.put o.dst v) h σ ps hs K
          else bif allocOp o then dop C (e1.only (opTmps o)) o σ fun v σ => ddops C all ms os (k + 1) (e1.put o.dst v) h σ ps hs K
          else dop C (e1.only (opTmps o)) o σ fun v σ => rechk C ms k σ ps (ddops C all ms os (k + 1) (e1.put o.dst v) σ σ ps ((k, h) :: hs) K)) = some r →
          ∃ E H Z W V, K (E (o :: os).length) (Z (o :: os).length) = some r ∧ (∀ x, (E 0).get x = e.get x) ∧ H 0 = h ∧ Z 0 = σ ∧ RunOk C all ms (o :: os) k ps hs E H Z W V := fun e1 he1 hg hd => by
        cases hp : pureOp C.calls o with
        | true =>
          rw [hp] at hd
          simp only [cond_true] at hd
          obtain ⟨v, σ', h1, h2, _⟩ := dop_det hN hd
          have hruns : Runs C (e1.only (opTmps o)) o h v := ⟨σ', fun R2 K2 => h2 K2⟩
          cases hrd : readsOp C o with
          | true =>
            rw [hrd] at h1
            simp only [cond_true] at h1
            obtain ⟨h3, h4⟩ := backs_spec hN hs _ h1
            obtain ⟨E, H, Z, W, V, k1, k2, k3, k4, k5⟩ := ddops_run hN os (k + 1) _ _ _ _ _ h3
            refine ⟨_, _, _, _, _, k1, he1, rfl, rfl, k5.cons (e := e1) (h := h) (σ := σ) (w := true) (v := v) ⟨hdst, fun x => by rw [k2, Env.get_put], fun _ => rfl, fun j want hgg => ?_, fun hf => (by cases hf), fun _ _ => ⟨hruns, k4, k3⟩, fun _ hf => (by rw [hp] at hf; cases hf), fun _ hf => (by simp [noisy, hp] at hf), by rw [k4]; exact Grw.refl _⟩
              (fun p hpp => List.mem_cons_of_mem _ hpp) (fun x hx => hx) (fun _ hf => (by simp [noisy, hp] at hf)) (fun _ _ _ => h4) (fun _ _ _ => List.mem_cons_self) (fun _ hf => (by simp [noisy, hp] at hf))⟩
            obtain ⟨oj, t, q1, q2, c, q3, q4⟩ := hg j want hgg
            exact ⟨oj, t, q1, q2, .inl ⟨c, q3, q4⟩⟩
          | false =>
            rw [hrd] at h1
            simp only [cond_false] at h1
            obtain ⟨E, H, Z, W, V, k1, k2, k3, k4, k5⟩ := ddops_run hN os (k + 1) _ _ _ _ _ h1
            refine ⟨_, _, _, _, _, k1, he1, rfl, rfl, k5.cons (e := e1) (h := h) (σ := σ) (w := true) (v := v) ⟨hdst, fun x => by rw [k2, Env.get_put], fun _ => rfl, fun j want hgg => ?_, fun hf => (by cases hf), fun _ _ => ⟨hruns, k4, k3⟩, fun _ hf => (by rw [hp] at hf; cases hf), fun _ hf => (by simp [noisy, hp] at hf), by rw [k4]; exact Grw.refl _⟩
              (fun p hpp => hpp) (fun x hx => hx) (fun _ hf => (by simp [noisy, hp] at hf)) (fun _ _ hf => (by rw [hrd] at hf; cases hf)) (fun _ _ hf => (by rw [hrd] at hf; cases hf)) (fun _ hf => (by simp [noisy, hp] at hf))⟩
            obtain ⟨oj, t, q1, q2, c, q3, q4⟩ := hg j want hgg
            exact ⟨oj, t, q1, q2, .inl ⟨c, q3, q4⟩⟩
        | false =>
          rw [hp] at hd
          simp only [cond_false] at hd
          cases hal : allocOp o with
          | true =>
            rw [hal] at hd
            simp only [cond_true] at hd
            obtain ⟨v, σ', h1, h2, hn⟩ := dop_det hN hd
            obtain ⟨E, H, Z, W, V, k1, k2, k3, k4, k5⟩ := ddops_run hN os (k + 1) _ _ _ _ _ h1
            refine ⟨_, _, _, _, _, k1, he1, rfl, rfl, k5.cons (e := e1) (h := h) (σ := σ) (w := true) (v := v) ⟨hdst, fun x => by rw [k2, Env.get_put], fun _ => rfl, fun j want hgg => ?_, fun hf => (by cases hf), fun _ hf => (by rw [hp] at hf; cases hf), fun _ _ _ => ⟨fun R2 K2 => by rw [k4]; exact h2 K2, k3⟩, fun _ hf => (by simp [noisy, hal] at hf), by rw [k4]; exact hn⟩
              (fun p hpp => hpp) (fun x hx => hx) (fun _ hf => (by simp [noisy, hal] at hf)) (fun _ hf => (by rw [hp] at hf; cases hf)) (fun _ hf => (by rw [hp] at hf; cases hf)) (fun _ hf => (by simp [noisy, hal] at hf))⟩
            obtain ⟨oj, t, q1, q2, c, q3, q4⟩ := hg j want hgg
            exact ⟨oj, t, q1, q2, .inl ⟨c, q3, q4⟩⟩
          | false =>
            rw [hal] at hd
            simp only [cond_false] at hd
            obtain ⟨v, σ', h1, h2, hn⟩ := dop_det hN hd
            obtain ⟨h3, h4⟩ := rechk_spec hN ps _ h1
            obtain ⟨E, H, Z, W, V, k1, k2, k3, k4, k5⟩ := ddops_run hN os (k + 1) _ _ _ _ _ h3
            refine ⟨_, _, _, _, _, k1, he1, rfl, rfl, k5.cons (e := e1) (h := h) (σ := σ) (w := true) (v := v) ⟨hdst, fun x => by rw [k2, Env.get_put], fun _ => rfl, fun j want hgg => ?_, fun hf => (by cases hf), fun _ hf => (by rw [hp] at hf; cases hf), fun _ _ hf => (by rw [hal] at hf; cases hf), fun _ _ => ⟨fun R2 K2 => by rw [k4]; exact h2 K2, by rw [k3, k4]⟩, by rw [k4]; exact hn⟩
              (fun p hpp => hpp) (fun x hx => List.mem_cons_of_mem _ hx) (fun _ _ => by rw [k4]; exact h4) (fun _ hf => (by rw [hp] at hf; cases hf)) (fun _ hf => (by rw [hp] at hf; cases hf)) (fun _ _ => List.mem_cons_self)⟩
            obtain ⟨oj, t, q1, q2, c, q3, q4⟩ := hg j want hgg
            exact ⟨oj, t, q1, q2, .inl ⟨c, q3, q4⟩⟩
      -- passed by
      have skip : ∀ e1 : Env, (∀ x, e1.get x = e.get x) → (∃ j want, o.guard = some (j, want)) → (∀ j want, o.guard = some (j, want) → ∃ oj t, all[j]? = some oj ∧ oj.dst = some t ∧ ((∃ c, e1.get t = some (.bool c) ∧ false = (c == want)) ∨ e1.get t = some (.tup []))) →
          ddops C all ms os (k + 1) (e1.put o.dst (.tup [])) h σ ps hs K = some r →
          ∃ E H Z W V, K (E (o :: os).length) (Z (o :: os).length) = some r ∧ (∀ x, (E 0).get x = e.get x) ∧ H 0 = h ∧ Z 0 = σ ∧ RunOk C all ms (o :: os) k ps hs E H Z W V := fun e1 he1 hgs hg hd => by
        obtain ⟨E, H, Z, W, V, k1, k2, k3, k4, k5⟩ := ddops_run hN os (k + 1) _ _ _ _ _ hd
        refine ⟨_, _, _, _, _, k1, he1, rfl, rfl, k5.cons (e := e1) (h := h) (σ := σ) (w := false) (v := .tup []) ⟨hdst, fun x => by rw [k2, Env.get_put], fun hn => ?_, fun j want hgg => ?_, fun _ => ⟨rfl, k4, k3⟩, fun hf => (by cases hf), fun hf => (by cases hf), fun hf => (by cases hf), by rw [k4]; exact Grw.refl _⟩
          (fun p hpp => hpp) (fun x hx => hx) (fun hf => (by cases hf)) (fun hf => (by cases hf)) (fun hf => (by cases hf)) (fun hf => (by cases hf))⟩
        · obtain ⟨j, want, hgg⟩ := hgs; rw [hgg] at hn; cases hn
        · obtain ⟨oj, t, q1, q2, q3⟩ := hg j want hgg
          exact ⟨oj, t, q1, q2, q3.imp id fun x => ⟨x, rfl⟩⟩
      split at hd
      · rename_i hg
        exact here e (fun _ => rfl) (fun j want hgg => by rw [hg] at hgg; cases hgg) hd
      · rename_i j want hg
        split at hd
        · rename_i oj hoj
          split at hd
          · rename_i t hdt
            split at hd
            · rename_i c hc
              have hput : ∀ c', c = c' → ∀ x, (e.put (some t) (.bool c')).get x = e.get x := fun c' ec x => by
                rw [Env.get_put]
                by_cases e2 : some t = some x
                · rw [if_pos e2]; cases e2; rw [hc, ec]
                · rw [if_neg e2]
              have hgl : ∀ c', c = c' → ∀ b, b = (c' == want) → ∀ j' want', o.guard = some (j', want') → ∃ oj t, all[j']? = some oj ∧ oj.dst = some t ∧ ∃ c, ((e.put (some t) (.bool c')).get t = some (.bool c) ∧ b = (c == want')) := fun c' ec b hbb j' want' hgg => by
                rw [hg] at hgg; cases hgg
                exact ⟨oj, t, hoj, hdt, c', by rw [Env.get_put, if_pos rfl], hbb⟩
              have hgl2 : ∀ c', c = c' → ∀ b, b = (c' == want) → ∀ j' want', o.guard = some (j', want') → ∃ oj t2, all[j']? = some oj ∧ oj.dst = some t2 ∧ ∃ c, ((e.put (some t) (.bool c')).get t2 = some (.bool c) ∧ b = (c == want')) := fun c' ec b hbb j' want' hgg => by
                rw [hg] at hgg; cases hgg
                exact ⟨oj, t, hoj, hdt, c', by rw [Env.get_put, if_pos rfl], hbb⟩
              cases c with
              | true =>
                simp only [cond_true] at hd
                cases want with
                | true => exact here _ (hput true rfl) (hgl2 true rfl true rfl) hd
                | false => exact skip _ (hput true rfl) ⟨_, _, hg⟩ (fun j' w' hgg => let ⟨oj, t2, q1, q2, q3⟩ := hgl2 true rfl false rfl j' w' hgg; ⟨oj, t2, q1, q2, .inl q3⟩) hd
              | false =>
                simp only [cond_false] at hd
                cases want with
                | true => exact skip _ (hput false rfl) ⟨_, _, hg⟩ (fun j' w' hgg => let ⟨oj, t2, q1, q2, q3⟩ := hgl2 false rfl false rfl j' w' hgg; ⟨oj, t2, q1, q2, .inl q3⟩) hd
                | false => exact here _ (hput false rfl) (hgl2 false rfl true rfl) hd
            · rename_i hc
              exact skip e (fun _ => rfl) ⟨_, _, hg⟩ (fun j' w' hgg => by rw [hg] at hgg; cases hgg; exact ⟨oj, t, hoj, hdt, .inr hc⟩) hd
            · cases hd
          · cases hd
        · cases hd

end Go.Proofs.YtgneblbblihaoaaDoor.A
