/- Code, whole; functions. -/
import Derived.Test.YtgneblbblihaoaaDoorB0
set_option linter.all false
namespace Go.Proofs.YtgneblbblihaoaaDoor.A
open Go Go.RowKit

/-- What holds behind a piece of code. -/
def Post {Rt : Type} (C : Cx) (B : Nat → Prop) (w0 : Base) (m : Nat → Option Pl) (a : Act) (ws : List Nat) (K : Ex → Env → Heap → Option Rt) (r : Rt) : Exit → Act → World → Prop :=
  fun x a' w' => ∃ ex e' σ' m', ExR x ex ∧ K ex e' σ' = some r ∧ After C B w0 m a ws e' σ' m' a' w'

theorem After.mono {C : Cx} {B : Nat → Prop} {w0 : Base} {m m' : Nat → Option Pl} {a a' : Act} {ws ws' : List Nat} {e' : Env} {σ' : Heap} {w' : World} (h : After C B w0 m a ws e' σ' m' a' w') (hs : ∀ t, t ∈ ws → t ∈ ws') : After C B w0 m a ws' e' σ' m' a' w' :=
  ⟨h.sub, h.r, h.env, h.defers, fun t ht => h.frame t fun x => ht (hs t x)⟩

theorem After.trans {C : Cx} {B : Nat → Prop} {w0 : Base} {m m' m'' : Nat → Option Pl} {a a' a'' : Act} {ws ws' : List Nat} {e' e'' : Env} {σ' σ'' : Heap} {w' w'' : World} (h : After C B w0 m a ws e' σ' m' a' w') (k : After C B w0 m' a' ws' e'' σ'' m'' a'' w'')
    {ws'' : List Nat} (h1 : ∀ t, t ∈ ws → t ∈ ws'') (h2 : ∀ t, t ∈ ws' → t ∈ ws'') : After C B w0 m a ws'' e'' σ'' m'' a'' w'' :=
  ⟨h.sub.trans k.sub, k.r, k.env, k.defers.trans h.defers, fun t ht => (k.frame t fun x => ht (h2 t x)).trans (h.frame t fun x => ht (h1 t x))⟩

/-- Behind a join: what was packed is unpacked. -/
theorem join_sound {Rt : Type} {C : Cx} {B : Nat → Prop} {w0 : Base} {m m' : Nat → Option Pl} {a a' : Act} {w' : World} {e e' : Env} {σ' : Heap} {ws : List Nat} {ex : Ex} {js : List (Ex × Lv)} {K : Ex → Env → Heap → Option Rt} {r : Rt} {mid : JT js × Heap}
    (hE : EnvR C m e a) (hp : packJ js ex e' (fun x => some (x, σ')) = some mid) (hk : elimJ js mid.1 (e.drop ws) mid.2 K = some r) (hA : After C B w0 m a ws e' σ' m' a' w') :
    ∃ e'' σ'', K ex e'' σ'' = some r ∧ After C B w0 m a ws e'' σ'' m' a' w' := by
  obtain ⟨y, h1, h2⟩ := packJ_spec e' ex js _ hp
  cases h1
  obtain ⟨x, h3, h4⟩ := h2 (e.drop ws) σ' K
  rw [h3] at hk
  exact ⟨_, σ', hk, hA.sub, hA.r, EnvR.append (fun t v ht => hA.env.tmp t v (h4 t v ht)) (hE.ofDrop hA.sub hA.env.size hA.frame), hA.defers, hA.frame⟩

theorem joinP_sound {Rt : Type} {C : Cx} {B : Nat → Prop} {w0 : Base} {m m' : Nat → Option Pl} {a a' : Act} {w' : World} {e e' : Env} {σ' : Heap} {ws : List Nat} {ex : Ex} {js : List (Ex × Lv)} {K : Ex → Env → Heap → Option Rt} {r : Rt} {mid : JT js}
    (hE : EnvR C m e a) (hp : packJ js ex e' (fun x => some x) = some mid) (hk : elimJ js mid (e.drop ws) σ' K = some r) (hA : After C B w0 m a ws e' σ' m' a' w') :
    ∃ e'', K ex e'' σ' = some r ∧ After C B w0 m a ws e'' σ' m' a' w' := by
  obtain ⟨y, h1, h2⟩ := packJ_spec e' ex js _ hp
  cases h1
  obtain ⟨x, h3, h4⟩ := h2 (e.drop ws) σ' K
  rw [h3] at hk
  exact ⟨_, hk, hA.sub, hA.r, EnvR.append (fun t v ht => hA.env.tmp t v (h4 t v ht)) (hE.ofDrop hA.sub hA.env.size hA.frame), hA.defers, hA.frame⟩

/-- What a round of a loop has come to. -/
def Fits (L : Lv) (js : List (Ex × Lv)) (e2 : Env) (ex : Ex) : (L.ty ⊕ JT js) → Prop
  | .inl x => ex = .normal ∧ ∀ t v, (L.env x).get t = some v → e2.get t = some v
  | .inr z => ex ≠ .normal ∧ ∀ (Ro : Type) (e0 : Env) (σ : Heap) (K2 : Ex → Env → Heap → Option Ro), ∃ q, elimJ js z e0 σ K2 = K2 ex (q ++ e0) σ ∧ ∀ t v, Env.get q t = some v → e2.get t = some v

/-- Regions, whatever their order. -/
def RegSound (C : Cx) : Prop := ∀ (id : Nat) (ops : Array Oper) (draw : Bool) (e : Env) (σ : Heap) {Rt : Type} (K : Env → Heap → Option Rt) (r : Rt), regK C ops draw e σ K = some r →
    ∀ (B : Nat → Prop) (w0 : Base) (m : Nat → Option Pl) (w : World) (a : Act), R B w0 m σ w → (w0.pm = true → pureOps C.calls ops.toList = true) → EnvR C m e a → (Code.region id ops draw).wp C.P (Post C B w0 m a (dsts ops.toList []) (fun ex e σ => match ex with | .normal => K e σ | _ => none) r) a w

def RegPure (C : Cx) : Prop := ∀ (ops : Array Oper) (draw : Bool) (e : Env) (σ : Heap) {Rt : Type} (K K' : Env → Heap → Option Rt), pureOps C.calls ops.toList = true → (∀ e, K e σ = K' e σ) → regK C ops draw e σ K = regK C ops draw e σ K'

theorem elim_pure {Rt : Type} {σ : Heap} {K K' : Ex → Env → Heap → Option Rt} (h : ∀ ex e, K ex e σ = K' ex e σ) : ∀ (js : List (Ex × Lv)) (y : JT js) (e0 : Env), elimJ js y e0 σ K = elimJ js y e0 σ K'
  | [], y, _ => nomatch y
  | [x], y, e0 => by simp only [elimJ, h]
  | x :: z :: l, .inl y, e0 => by simp only [elimJ, h]
  | x :: z :: l, .inr y, e0 => by simp only [elimJ]; exact elim_pure h (z :: l) y e0

theorem den_pure {C : Cx} (hP : RegPure C) (c : Code) : ∀ (an : Ann) (e : Env) (σ : Heap) {Rt : Type} (K K' : Ex → Env → Heap → Option Rt), pureC C.calls c = true → (∀ ex e, K ex e σ = K' ex e σ) → den C c an e σ K = den C c an e σ K' := by
  induction c with
  | region id ops draw =>
    intro an e σ Rt K K' hp h
    have hel : ∀ (js : List (Ex × Lv)) (y : JT js) (e0 : Env), elimJ js y e0 σ K = elimJ js y e0 σ K' := fun js => elim_pure h js
    simp only [pureC] at hp
    simp only [den, hp, cond_true, hel]
    split
    · rfl
    · exact hP ops draw e σ _ _ hp (fun e => h _ e)
  | seq x y ihx ihy =>
    intro an e σ Rt K K' hp h
    simp only [pureC] at hp
    cases hx : pureC C.calls x with
    | false => rw [hx] at hp; cases hp
    | true =>
      rw [hx] at hp
      simp only [den]
      refine ihx _ _ _ _ _ hx (fun ex e => ?_)
      cases ex with
      | normal => exact ihy _ _ _ _ _ hp h
      | exit i => exact h _ _
      | ret => exact h _ _
  | cond c x y ihx ihy =>
    intro an e σ Rt K K' hp h
    have hel : ∀ (js : List (Ex × Lv)) (y : JT js) (e0 : Env), elimJ js y e0 σ K = elimJ js y e0 σ K' := fun js => elim_pure h js
    simp only [pureC] at hp
    cases hx : pureC C.calls x with
    | false => rw [hx] at hp; cases hp
    | true =>
      rw [hx] at hp
      have hp' : pureC C.calls y = true := hp
      simp only [den, hx, hp', cond_true, hel]
      congr 1
      funext v
      congr 1
      funext v
      split
      · rfl
      · rw [ihx _ _ _ _ _ hx h, ihy _ _ _ _ _ hp' h]
  | block id x ih =>
    intro an e σ Rt K K' hp h
    have hel : ∀ (js : List (Ex × Lv)) (y : JT js) (e0 : Env), elimJ js y e0 σ K = elimJ js y e0 σ K' := fun js => elim_pure h js
    simp only [pureC] at hp
    simp only [den, hp, cond_true, hel]
    split
    · rfl
    · exact ih _ _ _ _ _ hp (fun ex e => h _ _)
  | loop x ih =>
    intro an e σ Rt K K' hp h
    have hel : ∀ (js : List (Ex × Lv)) (y : JT js) (e0 : Env), elimJ js y e0 σ K = elimJ js y e0 σ K' := fun js => elim_pure h js
    simp only [pureC] at hp
    simp only [den, hp, cond_true, hel]
  | skip => intro an e σ Rt K K' hp h; exact h _ _
  | label l => intro an e σ Rt K K' hp h; exact h _ _
  | ret => intro an e σ Rt K K' hp h; exact h _ _
  | exit id => intro an e σ Rt K K' hp h; exact h _ _
  | _ => intros; rfl

/-- Pure code, its heap told. -/
theorem den_keep {C : Cx} (hP : RegPure C) {c : Code} {an : Ann} {e : Env} {σ : Heap} {Rt : Type} {K : Ex → Env → Option Rt} {r : Rt} (hp : pureC C.calls c = true) (h : den C c an e σ (fun ex e _ => K ex e) = some r) :
    den C c an e σ (fun ex e σ' => chk (σ' = σ) (K ex e)) = some r := by
  rw [← h]; exact den_pure hP c _ _ _ _ _ hp (fun ex e => chk_pos rfl)

theorem den_sound {C : Cx} (hS : RegSound C) (hP : RegPure C) (c : Code) : ∀ (an : Ann) (e : Env) (σ : Heap) {Rt : Type} (K : Ex → Env → Heap → Option Rt) (r : Rt), den C c an e σ K = some r →
    ∀ (B : Nat → Prop) (w0 : Base) (m : Nat → Option Pl) (w : World) (a : Act), R B w0 m σ w → (w0.pm = true → pureC C.calls c = true) → EnvR C m e a → c.wp C.P (Post C B w0 m a (wr c []) K r) a w := by
  induction c with
  | skip =>
    intro an e σ Rt K r h B w0 m w a hR hpm hE
    exact wp_skip ⟨.normal, e, σ, m, trivial, h, Sub.refl m, hR, hE, rfl, fun _ _ => rfl⟩
  | label l =>
    intro an e σ Rt K r h B w0 m w a hR hpm hE
    exact wp_label ⟨.normal, e, σ, m, trivial, h, Sub.refl m, hR, hE, rfl, fun _ _ => rfl⟩
  | ret =>
    intro an e σ Rt K r h B w0 m w a hR hpm hE
    exact wp_ret ⟨.ret, e, σ, m, trivial, h, Sub.refl m, hR, hE, rfl, fun _ _ => rfl⟩
  | exit id =>
    intro an e σ Rt K r h B w0 m w a hR hpm hE
    exact wp_exit ⟨.exit id, e, σ, m, rfl, h, Sub.refl m, hR, hE, rfl, fun _ _ => rfl⟩
  | goto l => intro an e σ Rt K r h; cases h
  | rangeFunc f ps x y => intro an e σ Rt K r h; cases h
  | refuse s => intro an e σ Rt K r h; cases h
  | scope x => intro an e σ Rt K r h; cases h
  | region id ops draw =>
    intro an e σ Rt K r h B w0 m w a hR hpm hE
    have out : ∀ {K2 : Env → Heap → Option Rt} {ex' : Exit} {a' : Act} {w' : World}, Post C B w0 m a (dsts ops.toList []) (fun ex e σ => match ex with | .normal => K2 e σ | _ => none) r ex' a' w' → ∃ e' σ' m', ex' = .normal ∧ K2 e' σ' = some r ∧ After C B w0 m a (dsts ops.toList []) e' σ' m' a' w' := by
      rintro K2 ex' a' w' ⟨ex, e', σ', m', h1, h2, hA⟩
      cases ex with
      | normal =>
        cases ex' with
        | normal => exact ⟨e', σ', m', rfl, h2, hA⟩
        | _ => exact h1.elim
      | exit i => cases h2
      | ret => cases h2
    simp only [den] at h
    split at h
    · rename_i js x
      cases hp : pureOps C.calls ops.toList with
      | true =>
        rw [hp] at h
        simp only [cond_true] at h
        cases hd : (regK C ops draw e σ fun e _ => packJ js .normal e fun a => some a) with
        | none => rw [hd] at h; cases h
        | some mid =>
          rw [hd] at h
          have hk : regK C ops draw e σ (fun e σ' => chk (σ' = σ) (packJ js .normal e fun a => some a)) = some mid := by
            rw [← hd]; exact hP ops draw e σ _ _ hp (fun e => chk_pos rfl)
          refine wp_mono (hS id ops draw e σ _ _ hk B w0 m w a hR hpm hE) ?_
          rintro ex' a' w' ⟨ex, e', σ', m', h1, h2, hA⟩
          cases ex with
          | normal =>
            cases ex' with
            | normal =>
              obtain ⟨q1, q2⟩ := chk_spec h2
              subst q1
              obtain ⟨e'', k1, k2⟩ := joinP_sound hE q2 h hA
              exact ⟨.normal, e'', σ', m', trivial, k1, k2⟩
            | _ => exact h1.elim
          | exit i => cases h2
          | ret => cases h2
      | false =>
        rw [hp] at h
        simp only [cond_false] at h
        cases hd : (regK C ops draw e σ fun e σ => packJ js .normal e fun a => some (a, σ)) with
        | none => rw [hd] at h; cases h
        | some mid =>
          rw [hd] at h
          refine wp_mono (hS id ops draw e σ _ _ hd B w0 m w a hR hpm hE) ?_
          rintro ex' a' w' ⟨ex, e', σ', m', h1, h2, hA⟩
          cases ex with
          | normal =>
            cases ex' with
            | normal =>
              obtain ⟨e'', σ'', k1, k2⟩ := join_sound hE h2 h hA
              exact ⟨.normal, e'', σ'', m', trivial, k1, k2⟩
            | _ => exact h1.elim
          | exit i => cases h2
          | ret => cases h2
    · refine wp_mono (hS id ops draw e σ _ _ h B w0 m w a hR hpm hE) ?_
      intro ex' a' w' hq
      obtain ⟨e', σ', m', rfl, h2, hA⟩ := out hq
      exact ⟨.normal, e', σ', m', trivial, h2, hA⟩
  | seq x y ihx ihy =>
    intro an e σ Rt K r h B w0 m w a hR hpm hE
    have hpmx : w0.pm = true → pureC C.calls x = true := fun hz => by
      have := hpm hz; simp only [pureC] at this
      cases hx : pureC C.calls x with | true => rfl | false => rw [hx] at this; cases this
    have hpmy : w0.pm = true → pureC C.calls y = true := fun hz => by
      have := hpm hz; simp only [pureC, hpmx hz] at this; exact this
    simp only [den] at h
    refine wp_seq (wp_mono (ihx _ _ _ _ _ h B w0 m w a hR hpmx hE) ?_)
    rintro ex' a' w' ⟨ex, e', σ', m', h1, h2, hA⟩
    have hin1 : ∀ t, t ∈ wr x [] → t ∈ wr (x.seq y) [] := fun t ht => by simp only [wr]; rw [mem_wr]; exact .inl ht
    have hin2 : ∀ t, t ∈ wr y [] → t ∈ wr (x.seq y) [] := fun t ht => by simp only [wr]; rw [mem_wr]; exact .inr ht
    cases ex' with
    | normal =>
      cases ex with
      | normal =>
        refine wp_mono (ihy _ _ _ _ _ h2 B w0 m' w' a' hA.r hpmy hA.env) ?_
        rintro ex2 a2 w2 ⟨ex, e2, σ2, m2, k1, k2, hA2⟩
        exact ⟨ex, e2, σ2, m2, k1, k2, hA.trans hA2 hin1 hin2⟩
      | exit id => exact h1.elim
      | ret => exact h1.elim
    | exit id =>
      cases ex with
      | exit id' => exact ⟨.exit id', e', σ', m', h1, h2, hA.mono hin1⟩
      | normal => exact h1.elim
      | ret => exact h1.elim
    | ret =>
      cases ex with
      | ret => exact ⟨.ret, e', σ', m', h1, h2, hA.mono hin1⟩
      | normal => exact h1.elim
      | exit id => exact h1.elim
    | goto l => cases ex <;> exact h1.elim
    | panic ch => cases ex <;> exact h1.elim
    | outgrown => cases ex <;> exact h1.elim
  | cond c x y ihx ihy =>
    intro an e σ Rt K r h B w0 m w a hR hpm hE
    have hpmx : w0.pm = true → pureC C.calls x = true := fun hz => by
      have := hpm hz; simp only [pureC] at this
      cases hx : pureC C.calls x with | true => rfl | false => rw [hx] at this; cases this
    have hpmy : w0.pm = true → pureC C.calls y = true := fun hz => by
      have := hpm hz; simp only [pureC, hpmx hz] at this; exact this
    simp only [den] at h
    obtain ⟨v, h, hv⟩ := ev_sound hE h
    obtain ⟨b, e1, h5⟩ := asK_spec h
    subst e1
    simp only [Kd.val, VR] at hv
    have hin1 : ∀ t, t ∈ wr x [] → t ∈ wr (.cond c x y) [] := fun t ht => by simp only [wr]; rw [mem_wr]; exact .inl ht
    have hin2 : ∀ t, t ∈ wr y [] → t ∈ wr (.cond c x y) [] := fun t ht => by simp only [wr]; rw [mem_wr]; exact .inr ht
    clear h
    refine wp_cond hv ?_
    split at h5
    · rename_i js an'
      cases hp : (bif pureC C.calls x then pureC C.calls y else false) with
      | true =>
        rw [hp] at h5
        simp only [cond_true] at h5
        have hpx : pureC C.calls x = true := by cases hx : pureC C.calls x with | true => rfl | false => rw [hx] at hp; cases hp
        have hpy : pureC C.calls y = true := by rw [hpx] at hp; exact hp
        cases b with
        | true =>
          simp only [cond_true] at h5
          rw [if_pos rfl]
          cases hd : (den C x an'.fst e σ fun ex e _ => packJ js ex e fun x => some x) with
          | none => rw [hd] at h5; cases h5
          | some mid =>
            rw [hd] at h5
            refine wp_mono (ihx _ _ _ _ _ (den_keep hP hpx hd) B w0 m w a hR hpmx hE) ?_
            rintro ex' a' w' ⟨ex, e', σ', m', h1, h2, hA⟩
            obtain ⟨q1, q2⟩ := chk_spec h2
            subst q1
            obtain ⟨e'', k1, k2⟩ := joinP_sound hE q2 h5 (hA.mono hin1)
            exact ⟨ex, e'', σ', m', h1, k1, k2⟩
        | false =>
          simp only [cond_false] at h5
          rw [if_neg (by decide)]
          cases hd : (den C y an'.snd e σ fun ex e _ => packJ js ex e fun x => some x) with
          | none => rw [hd] at h5; cases h5
          | some mid =>
            rw [hd] at h5
            refine wp_mono (ihy _ _ _ _ _ (den_keep hP hpy hd) B w0 m w a hR hpmy hE) ?_
            rintro ex' a' w' ⟨ex, e', σ', m', h1, h2, hA⟩
            obtain ⟨q1, q2⟩ := chk_spec h2
            subst q1
            obtain ⟨e'', k1, k2⟩ := joinP_sound hE q2 h5 (hA.mono hin2)
            exact ⟨ex, e'', σ', m', h1, k1, k2⟩
      | false =>
        rw [hp] at h5
        simp only [cond_false] at h5
        cases b with
        | true =>
          simp only [cond_true] at h5
          rw [if_pos rfl]
          cases hd : (den C x an'.fst e σ fun ex e σ => packJ js ex e fun x => some (x, σ)) with
          | none => rw [hd] at h5; cases h5
          | some mid =>
            rw [hd] at h5
            refine wp_mono (ihx _ _ _ _ _ hd B w0 m w a hR hpmx hE) ?_
            rintro ex' a' w' ⟨ex, e', σ', m', h1, h2, hA⟩
            obtain ⟨e'', σ'', k1, k2⟩ := join_sound hE h2 h5 (hA.mono hin1)
            exact ⟨ex, e'', σ'', m', h1, k1, k2⟩
        | false =>
          simp only [cond_false] at h5
          rw [if_neg (by decide)]
          cases hd : (den C y an'.snd e σ fun ex e σ => packJ js ex e fun x => some (x, σ)) with
          | none => rw [hd] at h5; cases h5
          | some mid =>
            rw [hd] at h5
            refine wp_mono (ihy _ _ _ _ _ hd B w0 m w a hR hpmy hE) ?_
            rintro ex' a' w' ⟨ex, e', σ', m', h1, h2, hA⟩
            obtain ⟨e'', σ'', k1, k2⟩ := join_sound hE h2 h5 (hA.mono hin2)
            exact ⟨ex, e'', σ'', m', h1, k1, k2⟩
    · cases b with
      | true =>
        simp only [cond_true] at h5
        rw [if_pos rfl]
        refine wp_mono (ihx _ _ _ _ _ h5 B w0 m w a hR hpmx hE) ?_
        rintro ex' a' w' ⟨ex, e', σ', m', h1, h2, hA⟩
        exact ⟨ex, e', σ', m', h1, h2, hA.mono hin1⟩
      | false =>
        simp only [cond_false] at h5
        rw [if_neg (by decide)]
        refine wp_mono (ihy _ _ _ _ _ h5 B w0 m w a hR hpmy hE) ?_
        rintro ex' a' w' ⟨ex, e', σ', m', h1, h2, hA⟩
        exact ⟨ex, e', σ', m', h1, h2, hA.mono hin2⟩
  | block id x ih =>
    intro an e σ Rt K r h B w0 m w a hR hpm hE
    simp only [den] at h
    refine wp_block ?_
    -- how an exit of the body is one of the block
    have out : ∀ {K2 : Ex → Env → Heap → Option Rt} {ex' : Exit} {a' : Act} {w' : World} {ex : Ex} {e' : Env} {σ' : Heap} {m' : Nat → Option Pl}, ExR ex' ex → K2 (mapX id ex) e' σ' = some r → After C B w0 m a (wr x []) e' σ' m' a' w' →
        Exit.inBlock id (Post C B w0 m a (wr (.block id x) []) K2 r) ex' a' w' := fun {K2 ex' a' w' ex e' σ' m'} h1 h2 hA => by
      cases ex' with
      | exit i =>
        cases ex with
        | exit i' =>
          simp only [ExR] at h1; subst h1
          simp only [Exit.inBlock]
          by_cases hi : i = id
          · subst hi
            rw [if_pos rfl]
            exact ⟨.normal, e', σ', m', trivial, by simpa [mapX] using h2, hA⟩
          · rw [if_neg hi]
            have hb : Nat.beq i id = false := by
              cases hb : Nat.beq i id with
              | false => rfl
              | true => exact absurd (Nat.eq_of_beq_eq_true hb) hi
            exact ⟨.exit i, e', σ', m', rfl, by simpa [mapX, hb] using h2, hA⟩
        | normal => exact h1.elim
        | ret => exact h1.elim
      | normal =>
        cases ex with
        | normal => exact ⟨.normal, e', σ', m', trivial, h2, hA⟩
        | exit i => exact h1.elim
        | ret => exact h1.elim
      | ret =>
        cases ex with
        | ret => exact ⟨.ret, e', σ', m', trivial, h2, hA⟩
        | exit i => exact h1.elim
        | normal => exact h1.elim
      | goto l => cases ex <;> exact h1.elim
      | panic ch => cases ex <;> exact h1.elim
      | outgrown => cases ex <;> exact h1.elim
    split at h
    · rename_i js an'
      cases hp : pureC C.calls x with
      | true =>
        rw [hp] at h
        simp only [cond_true] at h
        cases hd : (den C x an' e σ fun ex e _ => packJ js (mapX id ex) e fun x => some x) with
        | none => rw [hd] at h; cases h
        | some mid =>
          rw [hd] at h
          refine wp_mono (ih _ _ _ _ _ (den_keep hP hp hd) B w0 m w a hR hpm hE) ?_
          rintro ex' a' w' ⟨ex, e', σ', m', h1, h2, hA⟩
          obtain ⟨q1, q2⟩ := chk_spec h2
          subst q1
          obtain ⟨e'', k1, k2⟩ := joinP_sound hE q2 h hA
          exact out h1 k1 k2
      | false =>
        rw [hp] at h
        simp only [cond_false] at h
        cases hd : (den C x an' e σ fun ex e σ => packJ js (mapX id ex) e fun x => some (x, σ)) with
        | none => rw [hd] at h; cases h
        | some mid =>
          rw [hd] at h
          refine wp_mono (ih _ _ _ _ _ hd B w0 m w a hR hpm hE) ?_
          rintro ex' a' w' ⟨ex, e', σ', m', h1, h2, hA⟩
          obtain ⟨e'', σ'', k1, k2⟩ := join_sound hE h2 h hA
          exact out h1 k1 k2
    · have h' : den C x an e σ (fun ex e σ => K (mapX id ex) e σ) = some r := h
      refine wp_mono (ih _ _ _ _ _ h' B w0 m w a hR hpm hE) ?_
      rintro ex' a' w' ⟨ex, e', σ', m', h1, h2, hA⟩
      exact out h1 h2 hA
  | loop x ih =>
    intro an e σ Rt K r h B w0 m w a hR hpm hE
    simp only [den] at h
    split at h
    · rename_i L js an'
      obtain ⟨x0, h, hx0⟩ := pack_spec e L _ h
      let f : L.ty → Heap → Option ((L.ty ⊕ JT js) × Heap) := fun x1 σ => den C x an' (L.env x1 ++ e.drop (wr x [])) σ fun ex e σ => (match ex with
        | .normal => e.pack L fun x => some ((Sum.inl x : L.ty ⊕ JT js), σ)
        | ex => packJ js ex e fun y => some (Sum.inr y, σ))
      let g : Heap → L.ty → Option (L.ty ⊕ JT js) := fun σ x1 => den C x an' (L.env x1 ++ e.drop (wr x [])) σ fun ex e _ => (match ex with
        | .normal => e.pack L fun x => some (Sum.inl x : L.ty ⊕ JT js)
        | ex => packJ js ex e fun y => some (Sum.inr y))
      let BodyOk : (L.ty → Heap → Option ((L.ty ⊕ JT js) × Heap)) → Prop := fun F => ∀ x1 σ1 y σ2, F x1 σ1 = some (y, σ2) → ∀ (m1 : Nat → Option Pl) (a' : Act) (w' : World), R B w0 m1 σ1 w' → EnvR C m1 (L.env x1 ++ e.drop (wr x [])) a' →
        x.wp C.P (fun ex' a2 w2 => ∃ ex e2 m2, ExR ex' ex ∧ Fits L js e2 ex y ∧ After C B w0 m1 a' (wr x []) e2 σ2 m2 a2 w2) a' w'
      -- either kind of loop comes to rounds
      have rounds : ∃ (F : L.ty → Heap → Option ((L.ty ⊕ JT js) × Heap)) (mid : JT js × Heap) (n : Nat), BodyOk F ∧ loopN F n x0 σ = some mid ∧ elimJ js mid.1 (e.drop (wr x [])) mid.2 K = some r := by
        cases hp : pureC C.calls x with
        | false =>
          rw [hp] at h
          simp only [cond_false] at h
          have hk : (loopW f x0 σ).bind (fun r => elimJ js r.1 (e.drop (wr x [])) r.2 K) = some r := h
          cases hl : loopW f x0 σ with
          | none => rw [hl] at hk; cases hk
          | some mid =>
            rw [hl] at hk
            obtain ⟨n, hn⟩ := loopW_spec hl
            refine ⟨f, mid, n, fun x1 σ1 y σ2 hf m1 a' w' hR1 hE1 => ?_, hn, hk⟩
            refine wp_mono (ih _ _ _ _ _ hf B w0 m1 w' a' hR1 hpm hE1) ?_
            rintro ex' a2 w2 ⟨ex, e2, σ3, m2, h1, h2, hA2⟩
            cases ex with
            | normal =>
              obtain ⟨x3, h3, h4⟩ := pack_spec e2 L _ h2
              cases h3
              exact ⟨.normal, e2, m2, h1, ⟨rfl, h4⟩, hA2⟩
            | exit i =>
              obtain ⟨z, h3, h4⟩ := packJ_spec e2 _ js _ h2
              cases h3
              exact ⟨.exit i, e2, m2, h1, ⟨by simp, fun Ro e0 σ K2 => h4 e0 σ K2⟩, hA2⟩
            | ret =>
              obtain ⟨z, h3, h4⟩ := packJ_spec e2 _ js _ h2
              cases h3
              exact ⟨.ret, e2, m2, h1, ⟨by simp, fun Ro e0 σ K2 => h4 e0 σ K2⟩, hA2⟩
        | true =>
          rw [hp] at h
          simp only [cond_true] at h
          have hk : (loopP (g σ) x0).bind (fun r => elimJ js r (e.drop (wr x [])) σ K) = some r := h
          cases hl : loopP (g σ) x0 with
          | none => rw [hl] at hk; cases hk
          | some mid =>
            rw [hl] at hk
            obtain ⟨n, hn⟩ := loopP_spec hl
            refine ⟨fun x1 σ1 => (g σ1 x1).map fun y => (y, σ1), (mid, σ), n, fun x1 σ1 y σ2 hf m1 a' w' hR1 hE1 => ?_, ?_, hk⟩
            · have hf : (g σ1 x1).map (fun y => (y, σ1)) = some (y, σ2) := hf
              have hg : g σ1 x1 = some y ∧ σ2 = σ1 := by
                cases hgx : g σ1 x1 with
                | none => rw [hgx] at hf; cases hf
                | some y' => rw [hgx] at hf; cases hf; exact ⟨rfl, rfl⟩
              obtain ⟨hg, rfl⟩ := hg
              refine wp_mono (ih _ _ _ _ _ (den_keep hP hp hg) B w0 m1 w' a' hR1 hpm hE1) ?_
              rintro ex' a2 w2 ⟨ex, e2, σ3, m2, h1, h2, hA2⟩
              obtain ⟨q1, h5⟩ := chk_spec h2
              clear h2
              subst q1
              cases ex with
              | normal =>
                obtain ⟨x3, h3, h4⟩ := pack_spec e2 L _ h5
                cases h3
                exact ⟨.normal, e2, m2, h1, ⟨rfl, h4⟩, hA2⟩
              | exit i =>
                obtain ⟨z, h3, h4⟩ := packJ_spec e2 _ js _ h5
                cases h3
                exact ⟨.exit i, e2, m2, h1, ⟨by simp, fun Ro e0 σ K2 => h4 e0 σ K2⟩, hA2⟩
              | ret =>
                obtain ⟨z, h3, h4⟩ := packJ_spec e2 _ js _ h5
                cases h3
                exact ⟨.ret, e2, m2, h1, ⟨by simp, fun Ro e0 σ K2 => h4 e0 σ K2⟩, hA2⟩
            · clear hl hk h hx0
              induction n generalizing x0 with
              | zero => cases hn
              | succ n ihn =>
                simp only [loopPN] at hn
                simp only [loopN]
                split at hn
                · rename_i x2 hg
                  rw [hg]
                  exact ihn x2 hn
                · rename_i y hg
                  cases hn
                  rw [hg]
                  rfl
                · cases hn
      obtain ⟨F, mid, n, hF, hn, hk⟩ := rounds
      -- rounds that are left
      let I : Nat → Act → World → Prop := fun k a' w' => ∃ x1 σ1 m1 e1, loopN F k x1 σ1 = some mid ∧ After C B w0 m a (wr x []) e1 σ1 m1 a' w' ∧ ∀ t v, (L.env x1).get t = some v → e1.get t = some v
      have start : I n a w := ⟨x0, σ, m, e, hn, ⟨Sub.refl m, hR, hE, rfl, fun _ _ => rfl⟩, hx0⟩
      refine wp_loop_ghost I n start ?_
      rintro k a' w' ⟨x1, σ1, m1, e1, hk1, hA1, hx1⟩
      cases k with
      | zero => cases hk1
      | succ k =>
        simp only [loopN] at hk1
        have hE1 : EnvR C m1 (L.env x1 ++ e.drop (wr x [])) a' := EnvR.append (fun t v ht => hA1.env.tmp t v (hx1 t v ht)) (hE.ofDrop hA1.sub hA1.env.size hA1.frame)
        split at hk1
        · rename_i x2 σ2 hf
          refine wp_mono (hF x1 σ1 _ σ2 hf m1 a' w' hA1.r hE1) ?_
          rintro ex' a2 w2 ⟨ex, e2, m2, h1, h2, hA2⟩
          obtain ⟨rfl, h4⟩ := h2
          cases ex' with
          | normal => exact ⟨k, Nat.lt_succ_self k, x2, σ2, m2, e2, hk1, hA1.trans hA2 (fun _ h => h) (fun _ h => h), h4⟩
          | _ => exact h1.elim
        · rename_i y σ2 hf
          cases hk1
          refine wp_mono (hF x1 σ1 _ σ2 hf m1 a' w' hA1.r hE1) ?_
          rintro ex' a2 w2 ⟨ex, e2, m2, h1, h2, hA2⟩
          obtain ⟨hne, h4⟩ := h2
          have hA3 := hA1.trans hA2 (fun _ h => h) (fun _ h => h)
          obtain ⟨q, h5, h6⟩ := h4 _ (e.drop (wr x [])) σ2 K
          rw [h5] at hk
          have hA4 : After C B w0 m a (wr x []) (q ++ e.drop (wr x [])) σ2 m2 a2 w2 := ⟨hA3.sub, hA3.r, EnvR.append (fun t v ht => hA3.env.tmp t v (h6 t v ht)) (hE.ofDrop hA3.sub hA3.env.size hA3.frame), hA3.defers, hA3.frame⟩
          cases ex with
          | normal => exact absurd rfl hne
          | exit i =>
            cases ex' with
            | exit i' => exact ⟨.exit i, _, σ2, m2, h1, hk, hA4⟩
            | _ => exact h1.elim
          | ret =>
            cases ex' with
            | ret => exact ⟨.ret, _, σ2, m2, h1, hk, hA4⟩
            | _ => exact h1.elim
        · cases hk1
    · cases h

end Go.Proofs.YtgneblbblihaoaaDoor.A
