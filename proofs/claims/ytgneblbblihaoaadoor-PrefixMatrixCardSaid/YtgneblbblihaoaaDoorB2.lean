/- Functions. -/
import Derived.Test.YtgneblbblihaoaaDoorB5
set_option linter.all false
namespace Go.Proofs.YtgneblbblihaoaaDoor.A
open Go Go.RowKit

theorem env0_get : ∀ (args : List AVal) (i t : Nat) (v : AVal), (env0 i args).get t = some v → i ≤ t ∧ args[t - i]? = some v
  | [], i, t, v, h => by simp [env0, Env.get] at h
  | a :: as, i, t, v, h => by
    simp only [env0, Env.get] at h
    cases hb : Nat.beq i t with
    | true =>
      rw [hb] at h
      have := Nat.eq_of_beq_eq_true hb
      subst this
      simp at h
      exact ⟨Nat.le_refl _, by simpa using h⟩
    | false =>
      rw [hb] at h
      have hne : i ≠ t := fun e => by subst e; simp at hb
      obtain ⟨h1, h2⟩ := env0_get as (i + 1) t v (by simpa using h)
      refine ⟨by omega, ?_⟩
      rw [show t - i = (t - (i + 1)) + 1 by omega]
      simpa using h2

theorem packs_spec {Rt : Type} {r : Rt} : ∀ (vs : List AVal) (ks : List Kd) (K : Tu ks → Option Rt), packs vs ks K = some r → ∃ x, K x = some r ∧ Tu.vals ks x = vs
  | [], [], K, h => ⟨(), h, rfl⟩
  | [v], [k], K, h => by
    obtain ⟨x, h1, h2⟩ := asK_spec h
    exact ⟨x, h2, by simp only [Tu.vals, h1]⟩
  | v :: v' :: vs, k :: k' :: ks, K, h => by
    simp only [packs] at h
    obtain ⟨x, h1, h2⟩ := asK_spec h
    obtain ⟨y, h3, h4⟩ := packs_spec (v' :: vs) (k' :: ks) _ h2
    exact ⟨(x, y), h3, by simp only [Tu.vals, h1, h4]⟩
  | [], k :: ks, K, h => by simp [packs] at h
  | v :: vs, [], K, h => by cases vs <;> simp [packs] at h
  | [v], k :: k' :: ks, K, h => by simp [packs] at h
  | v :: v' :: vs, [k], K, h => by simp [packs] at h

theorem retV_VR {m : Nat → Option Pl} (ks : List Kd) (x : Tu ks) {cvs : List Value} (h : VRs m (Tu.vals ks x) cvs) : VR m (retV ks x) (if h : cvs.toArray.size = 1 then cvs.toArray[0] else .tuple cvs.toArray) := by
  have hl := h.length
  match ks, x, h, hl with
  | [], x, h, hl => simp only [Tu.vals, List.length_nil] at hl; rw [dif_neg (by simp [hl])]; simp only [retV, VR]; exact ⟨cvs, rfl, h⟩
  | [k], x, h, hl =>
    simp only [Tu.vals, List.length_cons, List.length_nil] at hl
    rw [dif_pos (by simpa using hl)]
    simp only [Tu.vals, VRs] at h
    obtain ⟨v, vs', rfl, h1, rfl⟩ := h
    simp only [retV]
    exact h1
  | k :: k' :: ks, x, h, hl =>
    have h2 : ∀ (ks : List Kd) (x : Tu ks), (Tu.vals ks x).length = ks.length := fun ks => by
      induction ks with
      | nil => intro x; rfl
      | cons k ks ih =>
        intro x
        cases ks with
        | nil => rfl
        | cons k' ks => simp only [Tu.vals, List.length_cons]; rw [ih x.2]; rfl
    rw [h2] at hl
    rw [dif_neg (by simp at hl ⊢; omega)]
    simp only [retV, VR]
    exact ⟨cvs, rfl, h⟩

def rvSem (a : Act) : ResultVar → Sem Value
  | .tmp t => pure (a.tmps.getD t undef)
  | .cell x t => do loadVar t (← asAddr (a.tmps.getD x undef))

theorem res_sound {Rt : Type} {C : Cx} {B : Nat → Prop} {w0 : Base} {m : Nat → Option Pl} {e : Env} {σ : Heap} {w : World} {a : Act} {r : Rt} (hR : R B w0 m σ w) (hE : EnvR C m e a) : ∀ (rs : List ResultVar) (K : List AVal → Option Rt), resK C e σ rs K = some r →
    ∃ vs cvs, (rs.mapM (rvSem a) : Sem (List Value)).run C.P w = .ok cvs w ∧ K vs = some r ∧ VRs m vs cvs
  | [], K, h => ⟨[], [], by simp, h, by simp [VRs]⟩
  | .tmp t :: rs, K, h => by
    simp only [resK] at h
    split at h
    · rename_i v hv
      obtain ⟨vs, cvs, h1, h2, h3⟩ := res_sound hR hE rs _ h
      refine ⟨v :: vs, a.tmps.getD t undef :: cvs, ?_, h2, ⟨_, _, rfl, hE.tmp t v hv, h3⟩⟩
      simp only [List.mapM_cons, rvSem, Sem.run_bind, Sem.run_pure, Result.andThen_ok, h1]
    · cases h
  | .cell x t :: rs, K, h => by
    simp only [resK] at h
    obtain ⟨ti, i, d, z, ht, h⟩ := Cx.ti_spec h
    split at h
    · rename_i p hp
      have hv := hE.tmp x p hp
      -- a load leaves the world as it is
      have hw : (∃ l, p = .ptr l 0 ∨ ∃ o, p = .ptr l o) := by
        unfold loadK at h
        cases hb : isAg ti.tk with
        | true => rw [hb] at h; simp only [cond_true, ldG] at h; split at h <;> first | exact ⟨_, .inr ⟨_, rfl⟩⟩ | cases h
        | false => rw [hb] at h; simp only [cond_false, ld] at h; split at h <;> first | exact ⟨_, .inr ⟨_, rfl⟩⟩ | cases h
      obtain ⟨l, hl⟩ := hw
      have hex : ∃ o, p = .ptr l o := by rcases hl with h | h; exact ⟨0, h⟩; exact h
      obtain ⟨o, rfl⟩ := hex
      simp only [VR] at hv
      obtain ⟨pl, hpl, hv⟩ := hv
      obtain ⟨u', cv', h1', h2', h3'⟩ := load_same (K := fun v => resK C e σ rs fun vs => K (v :: vs)) ht hR (by simp only [VR]; exact ⟨pl, hpl, hv⟩) h
      obtain ⟨vs, cvs, k1, k2, k3⟩ := res_sound hR hE rs _ h2'
      refine ⟨u' :: vs, cv' :: cvs, ?_, k2, ⟨_, _, rfl, h3', k3⟩⟩
      have hl2 : (loadVar t ⟨pl.blk, pl.start + o, none⟩).run C.P w = .ok cv' w := by
        simpa [Instr.loadAt, Instr.sureAddr, hv] using h1'
      have ha : (asAddr (a.tmps.getD x undef)).run C.P w = .ok ⟨pl.blk, pl.start + o, none⟩ w := by rw [hv]; rfl
      have hx : (rvSem a (.cell x t)).run C.P w = .ok cv' w := by simp only [rvSem, Sem.run_bind, ha, Result.andThen_ok, hl2]
      simp only [List.mapM_cons, Sem.run_bind, hx, Sem.run_pure, Result.andThen_ok, k1]
    · cases h



/-- A body's run, from its abstract one. -/
theorem body_sound {P : Program} {NG : Nat} {calls : FuncId → Option Spec} {f : FuncId} {fn : Func} {an : Ann} {n : Nat} (hS : RegSound ⟨P, NG, n, calls⟩) (hP : RegPure ⟨P, NG, n, calls⟩) (hf : P.funcs[f]? = some fn) (hb : fn.body = some (fn.body.getD .skip)) (hn : fn.ntmps = n)
    {args : List AVal} (hlen : args.length ≤ n) {σ : Heap} {Rt : Type} {K : Ex → Env → Heap → Option Rt} {r : Rt} {B : Nat → Prop} {w0 : Base} {m : Nat → Option Pl} {w : World} {cargs : List Value} {Rr : Ending → World → Prop}
    (hden : den ⟨P, NG, n, calls⟩ (fn.body.getD .skip) an (env0 0 args) σ K = some r) (hR : R B w0 m σ w) (hpm : w0.pm = true → pureC calls (fn.body.getD .skip) = true) (hG : GlobR NG m) (hargs : VRs m args cargs)
    (fin : ∀ ex e' σ1 m' a' w', (ex = .normal ∨ ex = .ret) → K ex e' σ1 = some r → Sub m m' → R B w0 m' σ1 w' → EnvR ⟨P, NG, n, calls⟩ m' e' a' → ∃ v, (results fn a'.tmps).run P w' = .ok v w' ∧ Rr (.returned v) w')
    (hx : ∀ i e' σ1, K (.exit i) e' σ1 = none) : Calls P f cargs.toArray w Rr := by
  have hl := hargs.length
  let C : Cx := ⟨P, NG, n, calls⟩
  let a0 : Act := { tmps := cargs.toArray ++ Array.replicate (fn.ntmps - cargs.toArray.size) undef, defers := [] }
  have hE : EnvR C m (env0 0 args) a0 := by
    refine ⟨fun t v ht => ?_, hG, by simp [a0, C, hn]; omega⟩
    obtain ⟨_, h2⟩ := env0_get args 0 t v ht
    obtain ⟨u, h3, h4⟩ := hargs.get t v (by simpa using h2)
    have hlt := (List.getElem?_eq_some_iff.1 h3).1
    have : a0.tmps.getD t undef = u := by
      simp only [a0, Array.getD_eq_getD_getElem?]
      rw [Array.getElem?_append_left (by simpa using hlt)]
      simp [h3]
    rw [this]; exact h4
  refine calls_of_wp hf hb (wp_mono (den_sound (C := C) hS hP (fn.body.getD .skip) an _ σ _ _ hden B w0 m w a0 hR hpm hE) ?_)
  rintro x a' w' ⟨ex, e', σ1, m', h1, h2, hA⟩
  have fin' : ∀ ex, (ex = .normal ∨ ex = .ret) → K ex e' σ1 = some r → a'.defers = [] ∧ ∃ v, (results fn a'.tmps).run P w' = .ok v w' ∧ Rr (.returned v) w' := fun ex hex hk =>
    ⟨by rw [hA.defers], fin ex e' σ1 m' a' w' hex hk hA.sub hA.r hA.env⟩
  cases x with
  | normal =>
    cases ex with
    | normal => exact fin' .normal (.inl rfl) h2
    | _ => exact h1.elim
  | ret =>
    cases ex with
    | ret => exact fin' .ret (.inr rfl) h2
    | _ => exact h1.elim
  | exit id =>
    cases ex with
    | exit i => rw [hx] at h2; cases h2
    | _ => exact h1.elim
  | goto l => cases ex <;> exact h1.elim
  | panic ch => cases ex <;> exact h1.elim
  | outgrown => cases ex <;> exact h1.elim

theorem results_run {P : Program} {NG : Nat} {calls : FuncId → Option Spec} {n : Nat} {fn : Func} {B : Nat → Prop} {w0 : Base} {m : Nat → Option Pl} {e : Env} {σ : Heap} {w : World} {a : Act} {Rt : Type} {ks : List Kd} {K : Tu ks → Option Rt} {r : Rt} (hR : R B w0 m σ w) (hE : EnvR ⟨P, NG, n, calls⟩ m e a)
    (hk : resK ⟨P, NG, n, calls⟩ e σ fn.results.toList (fun vs => packs vs ks K) = some r) : ∃ y v, (results fn a.tmps).run P w = .ok v w ∧ VR m (retV ks y) v ∧ K y = some r := by
  obtain ⟨vs, cvs, k1, k2, k3⟩ := res_sound (C := ⟨P, NG, n, calls⟩) hR hE fn.results.toList _ hk
  obtain ⟨y, k4, k5⟩ := packs_spec vs ks _ k2
  rw [← k5] at k3
  refine ⟨y, _, ?_, retV_VR ks y k3, k4⟩
  have hres : results fn a.tmps = (do let vs ← fn.results.mapM (rvSem a); pure (if h : vs.size = 1 then vs[0] else .tuple vs)) := by
    unfold results
    congr 1
  rw [hres]
  simp only [Sem.run_bind, Array.mapM_eq_mapM_toList, Sem.run_map]
  rw [show (List.mapM (rvSem a) fn.results.toList : Sem (List Value)).run P w = .ok cvs w from k1]
  rfl

theorem vals_len : ∀ (ks : List Kd) (x : Tu ks), (Tu.vals ks x).length = ks.length
  | [], _ => rfl
  | [_], _ => rfl
  | k :: k' :: ks, x => by simp only [Tu.vals, List.length_cons]; rw [vals_len (k' :: ks) x.2]; rfl

theorem resK_ext {Rt : Type} {C : Cx} {e : Env} {σ : Heap} {r : Rt} : ∀ {rs : List ResultVar} {K : List AVal → Option Rt}, resK C e σ rs K = some r →
    ∃ vs, (∀ τ, Ext σ τ → ∀ {R2 : Type} (K2 : List AVal → Option R2), resK C e τ rs K2 = K2 vs) ∧ K vs = some r
  | [], K, h => ⟨[], fun _ _ _ _ => rfl, h⟩
  | .tmp t :: rs, K, h => by
    simp only [resK] at h
    split at h
    · rename_i v hv
      obtain ⟨vs, h1, h2⟩ := resK_ext h
      exact ⟨v :: vs, fun τ hX R2 K2 => by simp only [resK, hv]; exact h1 τ hX _, h2⟩
    · cases h
  | .cell a t :: rs, K, h => by
    simp only [resK] at h
    obtain ⟨ti, h, hti⟩ := ti_det h
    split at h
    · rename_i p hp
      obtain ⟨v, h, hv⟩ := loadK_det h
      obtain ⟨vs, h1, h2⟩ := resK_ext h
      refine ⟨v :: vs, fun τ hX R2 K2 => ?_, h2⟩
      simp only [resK, hp]
      rw [hti]
      have h5 : loadK ti τ p (fun v => some v) = some v := loadK_le hX v (hv (fun v => some v))
      obtain ⟨v', h6, h7⟩ := loadK_det h5
      cases h6
      rw [h7]; exact h1 τ hX _
    · cases h

theorem packs_vals {Rt : Type} : ∀ (ks : List Kd) (x : Tu ks) (K : Tu ks → Option Rt), packs (Tu.vals ks x) ks K = K x
  | [], x, K => rfl
  | [k], x, K => by cases k <;> simp [packs, Tu.vals, asK, Kd.val]
  | k :: k' :: ks, x, K => by
    have ih := packs_vals (Rt := Rt) (k' :: ks)
    cases hks : Tu.vals (k' :: ks) x.2 with
    | nil => have := vals_len (k' :: ks) x.2; rw [hks] at this; cases this
    | cons v vs =>
      simp only [Tu.vals, hks, packs]
      have : asK k (k.val x.1) = fun (K : k.ty → Option Rt) => K x.1 := by funext K; cases k <;> simp [asK, Kd.val]
      rw [this]
      dsimp only
      rw [← hks, ih]

/-- **A function whose abstract run is told: it may turn the heap.** -/
theorem specOk_eff0 {P : Program} {NG : Nat} {calls : FuncId → Option Spec} {f : FuncId} {fn : Func} {an : Ann} {ks pks : List Kd} {G : Tu pks → Heap → Option (Tu ks × Heap)} (n : Nat) (hC : ∀ g s, calls g = some s → SpecOk P NG g s) (hS : RegSound ⟨P, NG, n, calls⟩) (hP : RegPure ⟨P, NG, n, calls⟩) (hf : P.funcs[f]? = some fn)
    (hb : fn.body = some (fn.body.getD .skip)) (hn : fn.ntmps = n) (hnm : (fn.name == "runtime.NumGoroutine") = false) (hl : pks.length ≤ n)
    (heq : ∀ x σ, G x σ = denF ⟨P, NG, n, calls⟩ fn.results.toList (fn.body.getD .skip) an ks (Tu.vals pks x) σ) : SpecOk P NG f (.eff ks fun args σ => packs args pks fun x => G x σ) := by
  refine ⟨⟨fn, hf, hnm, by rw [hb]; rfl⟩, fun B w0 m σ w args cargs v σ' hg hR hpm hG hargs => ?_, fun args σ v σ' hg => ?_, fun ks g h => by cases h⟩
  case refine_2 =>
    simp only [Spec.run] at hg
    cases hp : (packs args pks fun x => G x σ) with
    | none => rw [hp] at hg; cases hg
    | some z =>
      rw [hp] at hg
      cases hg
      obtain ⟨x, h1, h2⟩ := packs_spec args pks _ hp
      rw [heq] at h1
      obtain ⟨ex, e', σ1, h3, h4⟩ := den_next (C := ⟨P, NG, n, calls⟩) hC _ _ _ _ _ _ h1
      have h5 : resK ⟨P, NG, n, calls⟩ e' σ1 fn.results.toList (fun vs => packs vs ks fun r => some (r, σ1)) = some z := by
        cases ex with
        | exit i => cases h3
        | normal => exact h3
        | ret => exact h3
      obtain ⟨vs, _, h6⟩ := resK_ext h5
      obtain ⟨y, h7, _⟩ := packs_spec _ _ _ h6
      cases h7
      exact h4
  simp only [Spec.run] at hg
  cases hp : (packs args pks fun x => G x σ) with
  | none => rw [hp] at hg; cases hg
  | some z =>
    rw [hp] at hg
    cases hg
    obtain ⟨x, h1, h2⟩ := packs_spec args pks _ hp
    rw [heq] at h1
    subst h2
    refine body_sound hS hP hf hb hn (by rw [vals_len]; exact hl) h1 hR (fun hx => by have := hpm hx; simp [isPur] at this) hG hargs (fun ex e' σ1 m' a' w' hex hk S hR' hE' => ?_) (fun i e' σ1 => rfl)
    have hk' : resK ⟨P, NG, n, calls⟩ e' σ1 fn.results.toList (fun vs => packs vs ks fun r => some (r, σ1)) = some z := by rcases hex with rfl | rfl <;> exact hk
    obtain ⟨y, u, k1, k2, k3⟩ := results_run hR' hE' hk'
    cases k3
    exact ⟨u, k1, m', u, rfl, S, hR', k2⟩

/-- **A function whose abstract run is told: it leaves the heap as it is.** -/
theorem specOk_pur0 {P : Program} {NG : Nat} {calls : FuncId → Option Spec} {f : FuncId} {fn : Func} {an : Ann} {ks pks : List Kd} {G : Tu pks → Heap → Option (Tu ks)} (n : Nat) (hC : ∀ g s, calls g = some s → SpecOk P NG g s) (hS : RegSound ⟨P, NG, n, calls⟩) (hP : RegPure ⟨P, NG, n, calls⟩) (hf : P.funcs[f]? = some fn)
    (hb : fn.body = some (fn.body.getD .skip)) (hn : fn.ntmps = n) (hnm : (fn.name == "runtime.NumGoroutine") = false) (hl : pks.length ≤ n)
    (heq : ∀ x σ, G x σ = denP ⟨P, NG, n, calls⟩ fn.results.toList (fn.body.getD .skip) an ks (Tu.vals pks x) σ) : SpecOk P NG f (.pur ks fun args σ => packs args pks fun x => G x σ) := by
  refine ⟨⟨fn, hf, hnm, by rw [hb]; rfl⟩, fun B w0 m σ w args cargs v σ' hg hR hpm hG hargs => ?_, fun args σ v σ' hg => ?_, fun ks' g' h args σ τ y hX hg => ?_⟩
  case refine_2 =>
    simp only [Spec.run] at hg
    cases hp : (packs args pks fun x => G x σ) with
    | none => rw [hp] at hg; cases hg
    | some z => rw [hp] at hg; cases hg; exact Grw.refl _
  case refine_3 =>
    cases h
    obtain ⟨x, h1, h2⟩ := packs_spec args pks _ hg
    subst h2
    have h3 : G x τ = some y := by
      rw [heq] at h1 ⊢
      unfold denP at h1 ⊢
      cases hpu : pureC calls (fn.body.getD .skip) with
      | false => rw [hpu] at h1; cases h1
      | true =>
        rw [hpu] at h1
        simp only [cond_true] at h1 ⊢
        obtain ⟨ex, e', k1, k2⟩ := den_ext (C := ⟨P, NG, n, calls⟩) hC _ _ _ _ _ _ hpu h1
        rw [k2 τ hX]
        cases ex with
        | exit i => cases k1
        | normal => obtain ⟨vs, q1, q2⟩ := resK_ext k1; exact (q1 τ hX _).trans q2
        | ret => obtain ⟨vs, q1, q2⟩ := resK_ext k1; exact (q1 τ hX _).trans q2
    exact (packs_vals pks x _).trans h3
  simp only [Spec.run] at hg
  cases hp : (packs args pks fun x => G x σ) with
  | none => rw [hp] at hg; cases hg
  | some z =>
    rw [hp] at hg
    cases hg
    obtain ⟨x, h1, h2⟩ := packs_spec args pks _ hp
    rw [heq] at h1
    subst h2
    unfold denP at h1
    cases hpu : pureC calls (fn.body.getD .skip) with
    | false => rw [hpu] at h1; cases h1
    | true =>
      rw [hpu] at h1
      simp only [cond_true] at h1
      have h3 : den ⟨P, NG, n, calls⟩ (fn.body.getD .skip) an (env0 0 (Tu.vals pks x)) σ (fun ex e σ' => chk (σ' = σ) (match ex with
          | .exit _ => none
          | _ => resK ⟨P, NG, n, calls⟩ e σ fn.results.toList fun vs => packs vs ks fun r => some r)) = some z := by
        rw [← h1]
        refine den_pure hP _ _ _ _ _ _ hpu (fun ex e => ?_)
        rw [chk_pos rfl]
        cases ex <;> rfl
      refine body_sound hS hP hf hb hn (by rw [vals_len]; exact hl) h3 hR (fun _ => hpu) hG hargs (fun ex e' σ1 m' a' w' hex hk S hR' hE' => ?_) (fun i e' σ1 => ?_)
      · obtain ⟨q1, q2⟩ := chk_spec hk
        subst q1
        have hk' : resK ⟨P, NG, n, calls⟩ e' σ1 fn.results.toList (fun vs => packs vs ks fun r => some r) = some z := by rcases hex with rfl | rfl <;> exact q2
        obtain ⟨y, u, k1, k2, k3⟩ := results_run hR' hE' hk'
        cases k3
        exact ⟨u, k1, m', u, rfl, S, hR', k2⟩
      · unfold chk; split <;> rfl

theorem noSpec_ok {P : Program} {NG : Nat} : ∀ g s, noSpec g = some s → SpecOk P NG g s := fun g s h => by cases h

theorem tab_ok {P : Program} {NG : Nat} {n : FuncId} {W : Spec} {rest : FuncId → Option Spec} (h1 : SpecOk P NG n W) (h2 : ∀ g s, rest g = some s → SpecOk P NG g s) : ∀ g s, tab n W rest g = some s → SpecOk P NG g s := fun g s h => by
  unfold tab at h
  cases hb : Nat.beq g n with
  | true => rw [hb] at h; cases h; rw [Nat.eq_of_beq_eq_true hb]; exact h1
  | false => rw [hb] at h; exact h2 g s h

end Go.Proofs.YtgneblbblihaoaaDoor.A
