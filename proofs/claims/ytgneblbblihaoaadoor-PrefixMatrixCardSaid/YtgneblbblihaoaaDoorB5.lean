/- What leaves the heap alone sees the same in a wider heap; heaps grow. -/
import Derived.Test.YtgneblbblihaoaaDoorB4
set_option linter.all false
namespace Go.Proofs.YtgneblbblihaoaaDoor.A
open Go Go.RowKit

def Le {Rt : Type} (x y : Option Rt) : Prop := ∀ r, x = some r → y = some r
theorem Le.rfl {Rt : Type} {x : Option Rt} : Le x x := fun _ h => h

section
variable {Rt : Type} {C : Cx} {e : Env} {σ τ : Heap} {r : Rt}

theorem ti_le {t : TypeId} {K K' : TI → Option Rt} (h : ∀ a, Le (K a) (K' a)) : Le (C.ti t K) (C.ti t K') := by
  unfold Cx.ti; split
  · exact h _
  · exact Le.rfl
theorem ev_le {x : Operand} {K K' : AVal → Option Rt} (h : ∀ a, Le (K a) (K' a)) : Le (ev C e x K) (ev C e x K') := fun r hr => by
  obtain ⟨a, h1, h2⟩ := ev_det hr
  rw [h2]; exact h a r h1
theorem evs_le {x : List Operand} {K K' : List AVal → Option Rt} (h : ∀ a, Le (K a) (K' a)) : Le (evs C e x K) (evs C e x K') := fun r hr => by
  obtain ⟨a, h1, h2⟩ := evs_det hr
  rw [h2]; exact h a r h1
theorem intK_le {v : AVal} {K K' : Int → Option Rt} (h : ∀ a, Le (K a) (K' a)) : Le (intK v K) (intK v K') := fun r hr => by
  obtain ⟨a, h1, h2⟩ := intK_det hr
  rw [h2]; exact h a r h1
theorem optK_le {x : Option Operand} {K K' : Option Int → Option Rt} (h : ∀ a, Le (K a) (K' a)) : Le (optK C e x K) (optK C e x K') := fun r hr => by
  obtain ⟨a, h1, h2⟩ := optK_det hr
  rw [h2]; exact h a r h1
theorem ixA_le (hX : Ext σ τ) {v : AVal} {sz : Nat} {i : Int} {K : AVal → Option Rt} : Le (ixA σ v sz i K) (ixA τ v sz i K) := fun r h => by
  unfold ixA at h ⊢
  split at h
  · split at h
    · rename_i hg; simp only [hX _ _ hg]; exact h
    · cases h
  · cases h
theorem loadK_le (hX : Ext σ τ) {i : TI} {v : AVal} {K : AVal → Option Rt} : Le (loadK i σ v K) (loadK i τ v K) := fun r h => by
  unfold loadK at h ⊢
  cases hb : isAg i.tk with
  | true =>
    rw [hb] at h
    simp only [cond_true, ldG] at h ⊢
    split at h
    · split at h
      · rename_i hg; simp only [hX _ _ hg]; exact h
      · cases h
    · cases h
  | false =>
    rw [hb] at h
    simp only [cond_false, ld] at h ⊢
    split at h
    · split at h
      · rename_i l o _ u hu
        have : τ.cell l o = some u := by
          unfold Heap.cell at hu ⊢
          split at hu
          · rename_i hg; simp only [hX _ _ hg]; exact hu
          · cases hu
        simp only [this]; exact h
      · cases h
    · cases h
theorem slS_le (hX : Ext σ τ) {v : AVal} {sz : Nat} {lo : Int} {hi mx : Option Int} {K : AVal → Option Rt} : Le (slS σ sz v lo hi mx K) (slS τ sz v lo hi mx K) := fun r h => by
  unfold slS at h ⊢
  split at h
  · exact h
  · split at h
    · rename_i hg; simp only [hX _ _ hg]; exact h
    · cases h
  · cases h
theorem lenM_le (hX : Ext σ τ) {v : AVal} {K : Int → Option Rt} : Le (lenM σ v K) (lenM τ v K) := fun r h => by
  unfold lenM at h ⊢
  split at h
  · split at h
    · rename_i hg; simp only [hX _ _ hg]; exact h
    · cases h
  · exact h
  · cases h
theorem eqI_le (hX : Ext σ τ) {T : TypeId → Option TI} {cn : Bool} {x y : AVal} {K : Bool → Option Rt} : Le (eqI T σ cn x y K) (eqI T τ cn x y K) := fun r h => by
  unfold eqI at h ⊢
  split at h
  · exact h
  · exact h
  · exact h
  · rename_i t l o u l' o'
    by_cases tu : t = u
    · rw [if_pos tu] at h
      simp only [if_pos tu]
      cases hT : T t with
      | none => rw [hT] at h; cases h
      | some ti =>
        simp only [hT] at h
        dsimp only
        split at h
        · rename_i el hel
          cases hE : T el with
          | none => rw [hE] at h; cases h
          | some ei =>
            simp only [hE] at h
            dsimp only
            cases hb : (Nat.beq ei.size 0 || !ti.cmp) with
            | true => rw [hb] at h; cases h
            | false =>
              rw [hb] at h
              simp only [cond_false] at h ⊢
              by_cases ll : l = l'
              · rw [if_pos ll] at h; rw [if_pos ll]; exact h
              · rw [if_neg ll] at h; rw [if_neg ll]
                split at h
                · rename_i h1 h2
                  simp only [hX _ _ h1, hX _ _ h2]; exact h
                · cases h
        · cases h
    · rw [if_neg tu] at h; simp only [if_neg tu]; exact h
  · cases h
theorem binK_le (hX : Ext σ τ) {op : BinOp} {ti : TI} {cn : Bool} {x y : AVal} {K : AVal → Option Rt} : Le (binK C op ti σ cn x y K) (binK C op ti τ cn x y K) := by
  unfold binK
  split
  case h_8 => split <;> first | exact eqI_le hX | exact Le.rfl
  all_goals exact Le.rfl
theorem doCall_le (hC : ∀ f s, C.calls f = some s → SpecOk C.P C.NG f s) (hX : Ext σ τ) {f : FuncId} (hp : isPur (C.calls f) = true) {args : List AVal} {K : AVal → Option Rt} : Le (doCall (C.calls f) args σ fun v _ => K v) (doCall (C.calls f) args τ fun v _ => K v) := fun r h => by
  cases hs : C.calls f with
  | none => rw [hs] at h; cases h
  | some s =>
    cases s with
    | eff ks g => rw [hs] at hp; cases hp
    | pur ks g =>
      rw [hs] at h
      simp only [doCall] at h ⊢
      cases hg : g args σ with
      | none => rw [hg] at h; cases h
      | some x =>
        rw [hg] at h
        rw [(hC f _ hs).ext ks g rfl args σ τ x hX hg]; exact h

theorem lenK_le (hX : Ext σ τ) {ts : List TypeId} {args : List Operand} {K : AVal → Option Rt} : Le (biK C e .len ts args σ fun v _ => K v) (biK C e .len ts args τ fun v _ => K v) := by
  match ts, args with
  | [], _ => exact Le.rfl
  | [t], [] => exact Le.rfl
  | [t], [x] =>
    refine ti_le fun ti => ev_le fun v => ?_
    split
    · exact Le.rfl
    · exact Le.rfl
    · exact lenM_le hX
    · exact Le.rfl
  | [t], x :: y :: l => exact Le.rfl
  | t :: u :: l, _ => exact Le.rfl
theorem maxK_le {ts : List TypeId} {args : List Operand} {K : AVal → Option Rt} : Le (biK C e .max ts args σ fun v _ => K v) (biK C e .max ts args τ fun v _ => K v) := by
  match args with
  | [] => exact Le.rfl
  | [x] => exact Le.rfl
  | [x, y] => exact Le.rfl
  | x :: y :: z :: l => exact Le.rfl
theorem minK_le {ts : List TypeId} {args : List Operand} {K : AVal → Option Rt} : Le (biK C e .min ts args σ fun v _ => K v) (biK C e .min ts args τ fun v _ => K v) := by
  match args with
  | [] => exact Le.rfl
  | [x] => exact Le.rfl
  | [x, y] => exact Le.rfl
  | x :: y :: z :: l => exact Le.rfl

/-- What leaves the heap alone does the same in a wider heap. -/
theorem dop_mono (hC : ∀ f s, C.calls f = some s → SpecOk C.P C.NG f s) {o : Oper} (hp : pureOp C.calls o = true) (hX : Ext σ τ) {K : AVal → Option Rt} : Le (dop C e o σ fun v _ => K v) (dop C e o τ fun v _ => K v) := by
  cases hop : o.op
  all_goals simp only [pureOp, hop] at hp
  all_goals simp only [dop, hop]
  case move => exact Le.rfl
  case assign => exact Le.rfl
  case pick => exact Le.rfl
  case build => exact Le.rfl
  case nilCheck => exact Le.rfl
  case unOp => exact Le.rfl
  case convert => exact Le.rfl
  case makeInterface => exact Le.rfl
  case makeFunc => exact Le.rfl
  case fieldAddr => exact Le.rfl
  case field => exact Le.rfl
  case index => exact Le.rfl
  case extract => exact Le.rfl
  case load => exact ti_le fun ti => ev_le fun a => loadK_le hX
  case binOp => exact ti_le fun ti => ev_le fun a => ev_le fun b => binK_le hX
  case slice =>
    refine ti_le fun ti => ev_le fun v => optK_le fun lo => optK_le fun hi => optK_le fun mx => ?_
    split
    · exact ti_le fun ei => slS_le hX
    · exact Le.rfl
    · exact Le.rfl
  case indexAddr =>
    refine ti_le fun ti => ev_le fun v => ev_le fun i => intK_le fun i => ?_
    split
    · exact ti_le fun ei => ixA_le hX
    · exact Le.rfl
    · exact Le.rfl
  case call c =>
    split at hp
    case h_5 => cases hp
    all_goals (rename_i hc; simp only [hc])
    · exact lenK_le hX
    · exact maxK_le
    · exact minK_le
    · rename_i f hc'
      refine evs_le fun args => ?_
      exact doCall_le hC hX hp
  all_goals cases hp

theorem hN_of (hC : ∀ f s, C.calls f = some s → SpecOk C.P C.NG f s) : ∀ f s, C.calls f = some s → ∀ args σ v σ', s.run args σ = some (v, σ') → Grw σ σ' := fun f s h => (hC f s h).next

theorem dop_ext (hC : ∀ f s, C.calls f = some s → SpecOk C.P C.NG f s) {o : Oper} (hp : pureOp C.calls o = true) {K : AVal → Heap → Option Rt} (h : dop C e o σ K = some r) :
    ∃ v, K v σ = some r ∧ ∀ τ, Ext σ τ → ∀ {R2 : Type} (K2 : AVal → Heap → Option R2), dop C e o τ K2 = K2 v τ := by
  rw [dop_pure (K' := fun v _ => K v σ) hp (fun v => rfl)] at h
  obtain ⟨v, σ', h1, h2, _⟩ := dop_det (hN_of hC) h
  refine ⟨v, h1, fun τ hX R2 K2 => ?_⟩
  have h3 : dop C e o σ (fun v _ => some v) = some v := h2 _
  have h4 := dop_mono hC hp hX v h3
  obtain ⟨v', σ'', h5, h6, _⟩ := dop_det (hN_of hC) h4
  cases h5
  rw [dop_pure (K' := fun v _ => K2 v τ) hp (fun v => rfl), h6]

theorem dops_ext (hC : ∀ f s, C.calls f = some s → SpecOk C.P C.NG f s) {all : List Oper} : ∀ (os : List Oper) (e : Env) (σ : Heap) (K : Env → Heap → Option Rt), pureOps C.calls os = true → dops C all os e σ K = some r →
    ∃ e', K e' σ = some r ∧ ∀ τ, Ext σ τ → ∀ {R2 : Type} (K2 : Env → Heap → Option R2), dops C all os e τ K2 = K2 e' τ
  | [], e, σ, K, _, h => ⟨e, h, fun _ _ _ _ => rfl⟩
  | o :: os, e, σ, K, hp, h => by
    simp only [pureOps] at hp
    cases hpo : pureOp C.calls o with
    | false => rw [hpo] at hp; cases hp
    | true =>
      rw [hpo] at hp
      simp only [cond_true] at hp
      have here : ∀ e1, dop C e1 o σ (fun v σ => dops C all os (e1.put o.dst v) σ K) = some r → ∃ e', K e' σ = some r ∧ ∀ τ, Ext σ τ → ∀ {R2 : Type} (K2 : Env → Heap → Option R2), dop C e1 o τ (fun v σ => dops C all os (e1.put o.dst v) σ K2) = K2 e' τ := fun e1 h => by
        obtain ⟨v, h1, h2⟩ := dop_ext hC hpo h
        obtain ⟨e', h3, h4⟩ := dops_ext hC os _ σ K hp h1
        exact ⟨e', h3, fun τ hX R2 K2 => by rw [h2 τ hX]; exact h4 τ hX K2⟩
      have skip : ∀ e1, dops C all os e1 σ K = some r → ∃ e', K e' σ = some r ∧ ∀ τ, Ext σ τ → ∀ {R2 : Type} (K2 : Env → Heap → Option R2), dops C all os e1 τ K2 = K2 e' τ := fun e1 h => dops_ext hC os e1 σ K hp h
      simp only [dops] at h ⊢
      cases hb : dstOk C.n o.dst with
      | false => rw [hb] at h; cases h
      | true =>
        rw [hb] at h
        simp only [cond_true] at h ⊢
        split at h
        · exact here _ h
        · rename_i j want hg
          split at h
          · rename_i oj hoj
            split at h
            · rename_i t hdt
              split at h
              · rename_i c hc
                try simp only [hoj, hdt, hc]
                cases c <;> cases want <;> first | exact here _ h | exact skip _ h
              · rename_i hc
                try simp only [hoj, hdt, hc]
                exact skip _ h
              · cases h
            · cases h
          · cases h

theorem ddops_ext (hC : ∀ f s, C.calls f = some s → SpecOk C.P C.NG f s) {all : List Oper} {ms : List Nat} : ∀ (os : List Oper) (k : Nat) (e : Env) (σ : Heap) (ps : List Pend) (K : Env → Heap → Option Rt), pureOps C.calls os = true → ddops C all ms os k e σ σ ps [] K = some r →
    ∃ e', K e' σ = some r ∧ ∀ τ, Ext σ τ → ∀ {R2 : Type} (ps' : List Pend) (K2 : Env → Heap → Option R2), ddops C all ms os k e τ τ ps' [] K2 = K2 e' τ
  | [], k, e, σ, ps, K, _, h => ⟨e, h, fun _ _ _ _ _ => rfl⟩
  | o :: os, k, e, σ, ps, K, hp, h => by
    simp only [pureOps] at hp
    cases hpo : pureOp C.calls o with
    | false => rw [hpo] at hp; cases hp
    | true =>
      rw [hpo] at hp
      simp only [cond_true] at hp
      have skip : ∀ e1, ddops C all ms os (k + 1) e1 σ σ ps [] K = some r → ∃ e', K e' σ = some r ∧ ∀ τ, Ext σ τ → ∀ {R2 : Type} (ps' : List Pend) (K2 : Env → Heap → Option R2), ddops C all ms os (k + 1) e1 τ τ ps' [] K2 = K2 e' τ := fun e1 h => ddops_ext hC os (k + 1) e1 σ ps K hp h
      simp only [ddops, hpo, cond_true, backs] at h ⊢
      have here : ∀ e1 : Env, dop C (e1.only (opTmps o)) o σ (fun v x => bif readsOp C o then ddops C all ms os (k + 1) (e1.put o.dst v) σ σ (⟨k, e1.only (opTmps o), o, v⟩ :: ps) [] K else ddops C all ms os (k + 1) (e1.put o.dst v) σ σ ps [] K) = some r →
          ∃ e', K e' σ = some r ∧ ∀ τ, Ext σ τ → ∀ {R2 : Type} (ps' : List Pend) (K2 : Env → Heap → Option R2), dop C (e1.only (opTmps o)) o τ (fun v x => bif readsOp C o then ddops C all ms os (k + 1) (e1.put o.dst v) τ τ (⟨k, e1.only (opTmps o), o, v⟩ :: ps') [] K2 else ddops C all ms os (k + 1) (e1.put o.dst v) τ τ ps' [] K2) = K2 e' τ := fun e1 h => by
        obtain ⟨v, h1, h2⟩ := dop_ext hC hpo h
        cases hrd : readsOp C o with
        | true =>
          rw [hrd] at h1
          obtain ⟨e', h3, h4⟩ := ddops_ext hC os (k + 1) _ σ _ K hp h1
          exact ⟨e', h3, fun τ hX R2 ps' K2 => by rw [h2 τ hX]; exact h4 τ hX _ K2⟩
        | false =>
          rw [hrd] at h1
          obtain ⟨e', h3, h4⟩ := ddops_ext hC os (k + 1) _ σ _ K hp h1
          exact ⟨e', h3, fun τ hX R2 ps' K2 => by rw [h2 τ hX]; exact h4 τ hX _ K2⟩
      cases hb : dstOk C.n o.dst with
      | false => rw [hb] at h; cases h
      | true =>
        rw [hb] at h
        simp only [cond_true] at h ⊢
        split at h
        · exact here _ h
        · rename_i j want hg
          split at h
          · rename_i oj hoj
            split at h
            · rename_i t hdt
              split at h
              · rename_i c hc
                try simp only [hoj, hdt, hc]
                cases c <;> cases want <;> first | exact here _ h | exact skip _ h
              · rename_i hc
                try simp only [hoj, hdt, hc]
                exact skip _ h
              · cases h
            · cases h
          · cases h

theorem regK_ext (hC : ∀ f s, C.calls f = some s → SpecOk C.P C.NG f s) {ops : Array Oper} {draw : Bool} {K : Env → Heap → Option Rt} (hp : pureOps C.calls ops.toList = true) (h : regK C ops draw e σ K = some r) :
    ∃ e', K e' σ = some r ∧ ∀ τ, Ext σ τ → ∀ {R2 : Type} (K2 : Env → Heap → Option R2), regK C ops draw e τ K2 = K2 e' τ := by
  unfold regK at h ⊢
  cases draw with
  | true =>
    simp only [cond_true] at h ⊢
    cases hd : drawOk C.calls ops with
    | false => rw [hd] at h; cases h
    | true =>
      rw [hd] at h
      simp only [cond_true] at h ⊢
      obtain ⟨e', h1, h2⟩ := ddops_ext hC _ _ _ _ _ _ hp h
      exact ⟨e', h1, fun τ hX R2 K2 => h2 τ hX _ K2⟩
  | false => exact dops_ext hC _ _ _ _ hp h

theorem regPure (hC : ∀ f s, C.calls f = some s → SpecOk C.P C.NG f s) : RegPure C := by
  intro ops draw e σ Rt K K' hp h
  cases h1 : regK C ops draw e σ K with
  | some r =>
    obtain ⟨e', h2, h3⟩ := regK_ext hC hp h1
    rw [h3 σ (Ext.refl σ) K', ← h, h2]
  | none =>
    cases h2 : regK C ops draw e σ K' with
    | none => rfl
    | some r =>
      obtain ⟨e', h3, h4⟩ := regK_ext hC hp h2
      rw [h4 σ (Ext.refl σ) K, h, h3] at h1
      cases h1

theorem elim_det (js : List (Ex × Lv)) : ∀ (y : JT js) (e0 : Env), ∃ ex e', ∀ {R2 : Type} (σ : Heap) (K : Ex → Env → Heap → Option R2), elimJ js y e0 σ K = K ex e' σ := by
  induction js with
  | nil => intro y; exact nomatch y
  | cons x l ih =>
    cases l with
    | nil => intro y e0; exact ⟨_, _, fun σ K => rfl⟩
    | cons z l =>
      intro y e0
      cases y with
      | inl y => exact ⟨_, _, fun σ K => rfl⟩
      | inr y => exact ih y e0

theorem pack_det (e : Env) : ∀ (l : Lv) (K : l.ty → Option Rt), e.pack l K = some r → ∃ x, K x = some r ∧ ∀ {R2 : Type} (K2 : l.ty → Option R2), e.pack l K2 = K2 x
  | [], K, h => ⟨(), h, fun _ => rfl⟩
  | [x], K, h => by
    simp only [Env.pack, Env.getK] at h ⊢
    split at h
    · rename_i u hu
      obtain ⟨y, h1, h2⟩ := asK_det h
      exact ⟨y, h1, fun K2 => by first | exact h2 K2 | (simp only [hu]; exact h2 K2)⟩
    · cases h
  | x :: y :: l, K, h => by
    simp only [Env.pack, Env.getK] at h ⊢
    split at h
    · rename_i u hu
      obtain ⟨a, h1, h2⟩ := asK_det h
      obtain ⟨b, h3, h4⟩ := pack_det e (y :: l) _ h1
      exact ⟨(a, b), h3, fun K2 => by first | rw [h2, h4] | (simp only [hu]; rw [h2, h4])⟩
    · cases h

theorem loopPN_mono {X Y : Type} {f g : X → Option (X ⊕ Y)} (h : ∀ x, Le (f x) (g x)) : ∀ (n : Nat) (x : X) (y : Y), loopPN f n x = some y → loopPN g n x = some y
  | 0, x, y, hh => by cases hh
  | n + 1, x, y, hh => by
    simp only [loopPN] at hh ⊢
    cases hf : f x with
    | none => rw [hf] at hh; cases hh
    | some z =>
      rw [hf] at hh
      rw [h x z hf]
      cases z with
      | inl x' => exact loopPN_mono h n x' y hh
      | inr y' => exact hh

theorem loopPN_det {X Y : Type} {f : X → Option (X ⊕ Y)} : ∀ (n k : Nat) (x : X) (y z : Y), loopPN f n x = some y → loopPN f k x = some z → y = z
  | 0, k, x, y, z, h, _ => by cases h
  | n + 1, 0, x, y, z, _, h => by cases h
  | n + 1, k + 1, x, y, z, h1, h2 => by
    simp only [loopPN] at h1 h2
    cases hf : f x with
    | none => rw [hf] at h1; cases h1
    | some u =>
      rw [hf] at h1 h2
      cases u with
      | inl x' => exact loopPN_det n k x' y z h1 h2
      | inr y' => cases h1; cases h2; rfl

theorem loopP_of {X Y : Type} {f : X → Option (X ⊕ Y)} {n : Nat} {x : X} {y : Y} (h : loopPN f n x = some y) : loopP f x = some y := by
  unfold loopP
  have hx : ∃ n r, loopPN f n x = some r := ⟨n, y, h⟩
  rw [dif_pos hx]
  exact congrArg some (loopPN_det _ _ x _ _ hx.choose_spec.choose_spec h)

theorem loopP_mono {X Y : Type} {f g : X → Option (X ⊕ Y)} (h : ∀ x, Le (f x) (g x)) (x : X) : Le (loopP f x) (loopP g x) := fun y hy => by
  obtain ⟨n, hn⟩ := loopP_spec hy
  exact loopP_of (loopPN_mono h n x y hn)

end

/-- Code that leaves the heap alone does the same in a wider heap. -/
theorem den_ext {C : Cx} (hC : ∀ f s, C.calls f = some s → SpecOk C.P C.NG f s) (c : Code) : ∀ (an : Ann) (e : Env) (σ : Heap) {Rt : Type} (K : Ex → Env → Heap → Option Rt) (r : Rt), pureC C.calls c = true → den C c an e σ K = some r →
    ∃ ex e', K ex e' σ = some r ∧ ∀ τ, Ext σ τ → ∀ {R2 : Type} (K2 : Ex → Env → Heap → Option R2), den C c an e τ K2 = K2 ex e' τ := by
  induction c with
  | skip => intro an e σ Rt K r hp h; exact ⟨.normal, e, h, fun _ _ _ _ => rfl⟩
  | label l => intro an e σ Rt K r hp h; exact ⟨.normal, e, h, fun _ _ _ _ => rfl⟩
  | ret => intro an e σ Rt K r hp h; exact ⟨.ret, e, h, fun _ _ _ _ => rfl⟩
  | exit id => intro an e σ Rt K r hp h; exact ⟨.exit id, e, h, fun _ _ _ _ => rfl⟩
  | goto l => intro an e σ Rt K r hp h; cases h
  | rangeFunc f ps x y => intro an e σ Rt K r hp h; cases h
  | refuse s => intro an e σ Rt K r hp h; cases h
  | scope x => intro an e σ Rt K r hp h; cases h
  | region id ops draw =>
    intro an e σ Rt K r hp h
    simp only [pureC] at hp
    simp only [den, hp, cond_true] at h ⊢
    split at h
    · rename_i js x
      cases hd : (regK C ops draw e σ fun e _ => packJ js .normal e fun a => some a) with
      | none => rw [hd] at h; cases h
      | some mid =>
        rw [hd] at h
        obtain ⟨e1, h1, h2⟩ := regK_ext hC hp hd
        obtain ⟨ex, e', h3⟩ := elim_det js mid (e.drop (dsts ops.toList []))
        refine ⟨ex, e', (h3 σ K).symm.trans h, fun τ hX R2 K2 => ?_⟩
        rw [h2 τ hX, h1]; exact h3 τ K2
    · rename_i hno
      obtain ⟨e1, h1, h2⟩ := regK_ext hC hp h
      refine ⟨.normal, e1, h1, fun τ hX R2 K2 => ?_⟩
      cases an with
      | j js a => exact absurd rfl (hno js a)
      | _ => exact h2 τ hX _
  | seq x y ihx ihy =>
    intro an e σ Rt K r hp h
    simp only [pureC] at hp
    have hpx : pureC C.calls x = true := by cases hx : pureC C.calls x with | true => rfl | false => rw [hx] at hp; cases hp
    have hpy : pureC C.calls y = true := by rw [hpx] at hp; exact hp
    simp only [den] at h ⊢
    obtain ⟨ex, e1, h1, h2⟩ := ihx _ _ _ _ _ hpx h
    cases ex with
    | normal =>
      obtain ⟨ex', e2, h3, h4⟩ := ihy _ _ _ _ _ hpy h1
      exact ⟨ex', e2, h3, fun τ hX R2 K2 => by rw [h2 τ hX]; exact h4 τ hX K2⟩
    | exit id => exact ⟨_, e1, h1, fun τ hX R2 K2 => h2 τ hX _⟩
    | ret => exact ⟨_, e1, h1, fun τ hX R2 K2 => h2 τ hX _⟩
  | cond c x y ihx ihy =>
    intro an e σ Rt K r hp h
    simp only [pureC] at hp
    have hpx : pureC C.calls x = true := by cases hx : pureC C.calls x with | true => rfl | false => rw [hx] at hp; cases hp
    have hpy : pureC C.calls y = true := by rw [hpx] at hp; exact hp
    simp only [den, hpx, hpy, cond_true] at h ⊢
    obtain ⟨v, h, hv⟩ := ev_det h
    obtain ⟨b, h5, hb⟩ := asK_det h
    simp only [hv, hb]
    clear h hv hb
    split at h5
    · rename_i js an'
      cases b with
      | true =>
        simp only [cond_true] at h5 ⊢
        cases hd : (den C x an'.fst e σ fun ex e _ => packJ js ex e fun x => some x) with
        | none => rw [hd] at h5; cases h5
        | some mid =>
          rw [hd] at h5
          obtain ⟨ex1, e1, h1, h2⟩ := ihx _ _ _ _ _ hpx hd
          obtain ⟨ex, e', h3⟩ := elim_det js mid (e.drop (wr x (wr y [])))
          exact ⟨ex, e', (h3 σ K).symm.trans h5, fun τ hX R2 K2 => by rw [h2 τ hX, h1]; exact h3 τ K2⟩
      | false =>
        simp only [cond_false] at h5 ⊢
        cases hd : (den C y an'.snd e σ fun ex e _ => packJ js ex e fun x => some x) with
        | none => rw [hd] at h5; cases h5
        | some mid =>
          rw [hd] at h5
          obtain ⟨ex1, e1, h1, h2⟩ := ihy _ _ _ _ _ hpy hd
          obtain ⟨ex, e', h3⟩ := elim_det js mid (e.drop (wr x (wr y [])))
          exact ⟨ex, e', (h3 σ K).symm.trans h5, fun τ hX R2 K2 => by rw [h2 τ hX, h1]; exact h3 τ K2⟩
    · rename_i hno
      have heq : ∀ {R2 : Type} (τ : Heap) (K2 : Ex → Env → Heap → Option R2), (match (motive := Ann → Option R2) an with
          | .j js an => (cond b (den C x an.fst e τ fun ex e _ => packJ js ex e fun x => some x) (den C y an.snd e τ fun ex e _ => packJ js ex e fun x => some x)).bind fun r => elimJ js r (e.drop (wr x (wr y []))) τ K2
          | an => cond b (den C x an.fst e τ K2) (den C y an.snd e τ K2)) = cond b (den C x an.fst e τ K2) (den C y an.snd e τ K2) := by
        intro R2 τ K2
        cases an with
        | j js a => exact absurd rfl (hno js a)
        | _ => rfl
      try simp only [heq]
      cases b with
      | true => exact ihx _ _ _ _ _ hpx h5
      | false => exact ihy _ _ _ _ _ hpy h5
  | block id x ih =>
    intro an e σ Rt K r hp h
    simp only [pureC] at hp
    simp only [den, hp, cond_true] at h ⊢
    split at h
    · rename_i js an'
      cases hd : (den C x an' e σ fun ex e _ => packJ js (mapX id ex) e fun x => some x) with
      | none => rw [hd] at h; cases h
      | some mid =>
        rw [hd] at h
        obtain ⟨ex1, e1, h1, h2⟩ := ih _ _ _ _ _ hp hd
        obtain ⟨ex, e', h3⟩ := elim_det js mid (e.drop (wr x []))
        exact ⟨ex, e', (h3 σ K).symm.trans h, fun τ hX R2 K2 => by rw [h2 τ hX, h1]; exact h3 τ K2⟩
    · rename_i hno
      obtain ⟨ex1, e1, h1, h2⟩ := ih _ _ _ _ _ hp h
      refine ⟨mapX id ex1, e1, h1, fun τ hX R2 K2 => ?_⟩
      cases an with
      | j js a => exact absurd rfl (hno js a)
      | _ => exact h2 τ hX _
  | loop x ih =>
    intro an e σ Rt K r hp h
    simp only [pureC] at hp
    simp only [den, hp, cond_true] at h ⊢
    split at h
    · rename_i L js an'
      obtain ⟨x0, h, hx0⟩ := pack_det e L _ h
      simp only [hx0]
      obtain ⟨mid, hd, h⟩ := Option.bind_eq_some_iff.1 h
      obtain ⟨ex, e', h3⟩ := elim_det js mid (e.drop (wr x []))
      refine ⟨ex, e', (h3 σ K).symm.trans h, fun τ hX R2 K2 => ?_⟩
      refine Eq.trans (congrArg (fun z => Option.bind z _) (loopP_mono (fun y => fun z hz => ?_) x0 mid hd)) (h3 τ K2)
      obtain ⟨ex1, e1, h1, h2⟩ := ih _ _ _ _ _ hp hz
      rw [h2 τ hX]; exact h1
    · cases h

theorem regK_next {C : Cx} (hC : ∀ f s, C.calls f = some s → SpecOk C.P C.NG f s) {ops : Array Oper} {draw : Bool} {e : Env} {σ : Heap} {Rt : Type} {r : Rt} {K : Env → Heap → Option Rt} (h : regK C ops draw e σ K = some r) :
    ∃ e' σ', K e' σ' = some r ∧ Grw σ σ' := by
  unfold regK at h
  cases draw with
  | true =>
    simp only [cond_true] at h
    cases hd : drawOk C.calls ops with
    | false => rw [hd] at h; cases h
    | true =>
      rw [hd] at h
      simp only [cond_true] at h
      obtain ⟨E, H, Z, W, V, h1, h2, h3, h4, h5⟩ := ddops_run (hN_of hC) _ _ _ _ _ _ _ h
      refine ⟨_, _, h1, ?_⟩
      rw [← h4]
      have : ∀ n, n ≤ ops.toList.length → Grw (Z 0) (Z n) := fun n => by
        induction n with
        | zero => intro _; exact Grw.refl _
        | succ n ih =>
          intro hn
          obtain ⟨o, ho⟩ : ∃ o, ops.toList[n]? = some o := ⟨_, List.getElem?_eq_getElem (by omega)⟩
          exact (ih (by omega)).trans (h5.step n o ho).next
      exact this _ (Nat.le_refl _)
  | false => exact dops_next (hN_of hC) _ _ _ _ h

theorem loopN_next {X Y : Type} {f : X → Heap → Option ((X ⊕ Y) × Heap)} (h : ∀ x σ y σ', f x σ = some (y, σ') → Grw σ σ') : ∀ (n : Nat) (x : X) (σ : Heap) (y : Y) (σ' : Heap), loopN f n x σ = some (y, σ') → Grw σ σ'
  | 0, _, _, _, _, hh => by cases hh
  | n + 1, x, σ, y, σ', hh => by
    simp only [loopN] at hh
    cases hf : f x σ with
    | none => rw [hf] at hh; cases hh
    | some z =>
      rw [hf] at hh
      obtain ⟨z, σ1⟩ := z
      have h1 := h _ _ _ _ hf
      cases z with
      | inl x' => exact h1.trans (loopN_next h n x' σ1 y σ' hh)
      | inr y' => cases hh; exact h1

/-- Heaps grow. -/
theorem den_next {C : Cx} (hC : ∀ f s, C.calls f = some s → SpecOk C.P C.NG f s) (c : Code) : ∀ (an : Ann) (e : Env) (σ : Heap) {Rt : Type} (K : Ex → Env → Heap → Option Rt) (r : Rt), den C c an e σ K = some r →
    ∃ ex e' σ', K ex e' σ' = some r ∧ Grw σ σ' := by
  have pure : ∀ (c : Code) (an : Ann) (e : Env) (σ : Heap) {Rt : Type} (K : Ex → Env → Heap → Option Rt) (r : Rt), pureC C.calls c = true → den C c an e σ K = some r → ∃ ex e' σ', K ex e' σ' = some r ∧ Grw σ σ' := fun c an e σ Rt K r hp h => by
    obtain ⟨ex, e', h1, _⟩ := den_ext hC c an e σ K r hp h
    exact ⟨ex, e', σ, h1, Grw.refl _⟩
  induction c with
  | skip => intro an e σ Rt K r h; exact ⟨.normal, e, σ, h, Grw.refl _⟩
  | label l => intro an e σ Rt K r h; exact ⟨.normal, e, σ, h, Grw.refl _⟩
  | ret => intro an e σ Rt K r h; exact ⟨.ret, e, σ, h, Grw.refl _⟩
  | exit id => intro an e σ Rt K r h; exact ⟨.exit id, e, σ, h, Grw.refl _⟩
  | goto l => intro an e σ Rt K r h; cases h
  | rangeFunc f ps x y => intro an e σ Rt K r h; cases h
  | refuse s => intro an e σ Rt K r h; cases h
  | scope x => intro an e σ Rt K r h; cases h
  | region id ops draw =>
    intro an e σ Rt K r h
    cases hp : pureOps C.calls ops.toList with
    | true => exact pure (.region id ops draw) _ _ _ _ _ hp h
    | false =>
      simp only [den, hp, cond_false] at h
      split at h
      · rename_i js x
        cases hd : (regK C ops draw e σ fun e σ => packJ js .normal e fun a => some (a, σ)) with
        | none => rw [hd] at h; cases h
        | some mid =>
          rw [hd] at h
          obtain ⟨e1, σ1, h1, h2⟩ := regK_next hC hd
          obtain ⟨y, h3, _⟩ := packJ_spec e1 .normal js _ h1
          cases h3
          obtain ⟨ex, e', h4⟩ := elim_next js _ _ _ _ h
          exact ⟨ex, e', σ1, h4, h2⟩
      · obtain ⟨e1, σ1, h1, h2⟩ := regK_next hC h
        exact ⟨.normal, e1, σ1, h1, h2⟩
  | seq x y ihx ihy =>
    intro an e σ Rt K r h
    simp only [den] at h
    obtain ⟨ex, e1, σ1, h1, h2⟩ := ihx _ _ _ _ _ h
    cases ex with
    | normal =>
      obtain ⟨ex', e2, σ2, h3, h4⟩ := ihy _ _ _ _ _ h1
      exact ⟨ex', e2, σ2, h3, h2.trans h4⟩
    | exit id => exact ⟨_, e1, σ1, h1, h2⟩
    | ret => exact ⟨_, e1, σ1, h1, h2⟩
  | cond c x y ihx ihy =>
    intro an e σ Rt K r h
    cases hp : (bif pureC C.calls x then pureC C.calls y else false) with
    | true => exact pure (.cond c x y) _ _ _ _ _ hp h
    | false =>
      simp only [den, hp, cond_false] at h
      obtain ⟨v, h, hv⟩ := ev_det h
      obtain ⟨b, h5, hb⟩ := asK_det h
      clear h hv hb
      split at h5
      · rename_i js an'
        have fin : ∀ mid : JT js × Heap, Grw σ mid.2 → elimJ js mid.1 (e.drop (wr x (wr y []))) mid.2 K = some r → ∃ ex e' σ', K ex e' σ' = some r ∧ Grw σ σ' := fun mid hm hh => by
          obtain ⟨ex, e', h4⟩ := elim_next js _ _ _ _ hh
          exact ⟨ex, e', mid.2, h4, hm⟩
        cases b with
        | true =>
          simp only [cond_true] at h5
          cases hd : (den C x an'.fst e σ fun ex e σ => packJ js ex e fun x => some (x, σ)) with
          | none => rw [hd] at h5; cases h5
          | some mid =>
            rw [hd] at h5
            obtain ⟨ex1, e1, σ1, h1, h2⟩ := ihx _ _ _ _ _ hd
            obtain ⟨z, h3, _⟩ := packJ_spec e1 ex1 js _ h1
            cases h3
            exact fin _ h2 h5
        | false =>
          simp only [cond_false] at h5
          cases hd : (den C y an'.snd e σ fun ex e σ => packJ js ex e fun x => some (x, σ)) with
          | none => rw [hd] at h5; cases h5
          | some mid =>
            rw [hd] at h5
            obtain ⟨ex1, e1, σ1, h1, h2⟩ := ihy _ _ _ _ _ hd
            obtain ⟨z, h3, _⟩ := packJ_spec e1 ex1 js _ h1
            cases h3
            exact fin _ h2 h5
      · cases b with
        | true => exact ihx _ _ _ _ _ h5
        | false => exact ihy _ _ _ _ _ h5
  | block id x ih =>
    intro an e σ Rt K r h
    cases hp : pureC C.calls x with
    | true => exact pure (.block id x) _ _ _ _ _ hp h
    | false =>
      simp only [den, hp, cond_false] at h
      split at h
      · rename_i js an'
        cases hd : (den C x an' e σ fun ex e σ => packJ js (mapX id ex) e fun x => some (x, σ)) with
        | none => rw [hd] at h; cases h
        | some mid =>
          rw [hd] at h
          obtain ⟨ex1, e1, σ1, h1, h2⟩ := ih _ _ _ _ _ hd
          obtain ⟨z, h3, _⟩ := packJ_spec e1 _ js _ h1
          cases h3
          obtain ⟨ex, e', h4⟩ := elim_next js _ _ _ _ h
          exact ⟨ex, e', σ1, h4, h2⟩
      · obtain ⟨ex1, e1, σ1, h1, h2⟩ := ih _ _ _ _ _ h
        exact ⟨_, e1, σ1, h1, h2⟩
  | loop x ih =>
    intro an e σ Rt K r h
    cases hp : pureC C.calls x with
    | true => exact pure (.loop x) _ _ _ _ _ hp h
    | false =>
      simp only [den, hp, cond_false] at h
      split at h
      · rename_i L js an'
        obtain ⟨x0, h, _⟩ := pack_det e L _ h
        obtain ⟨mid, hd, h⟩ := Option.bind_eq_some_iff.1 h
        obtain ⟨n, hn⟩ := loopW_spec hd
        obtain ⟨y, σ1⟩ := mid
        have hle := loopN_next (fun y σ z σ' hz => ?_) n x0 σ y σ1 hn
        · obtain ⟨ex, e', h4⟩ := elim_next js _ _ _ _ h
          exact ⟨ex, e', σ1, h4, hle⟩
        · obtain ⟨ex1, e1, σ2, h1, h2⟩ := ih _ _ _ _ _ hz
          cases ex1 with
          | normal => obtain ⟨q, h3, _⟩ := pack_spec e1 L _ h1; cases h3; exact h2
          | exit id => obtain ⟨q, h3, _⟩ := packJ_spec e1 _ js _ h1; cases h3; exact h2
          | ret => obtain ⟨q, h3, _⟩ := packJ_spec e1 _ js _ h1; cases h3; exact h2
      · cases h

end Go.Proofs.YtgneblbblihaoaaDoor.A
