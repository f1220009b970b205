/- Code: what the abstract machine does, the model does. -/
import Derived.Test.YtgneblbblihaoaaDoorA9
set_option linter.all false
namespace Go.Proofs.YtgneblbblihaoaaDoor.A
open Go Go.RowKit

/-- The state behind a piece of code, of that before it. -/
structure After (C : Cx) (B : Nat → Prop) (w0 : Base) (m : Nat → Option Pl) (a : Act) (ws : List Nat) (e' : Env) (σ' : Heap) (m' : Nat → Option Pl) (a' : Act) (w' : World) : Prop where
  sub : Sub m m'
  r : R B w0 m' σ' w'
  env : EnvR C m' e' a'
  defers : a'.defers = a.defers
  frame : ∀ t, t ∉ ws → a'.tmps.getD t undef = a.tmps.getD t undef

theorem put_tmps (a : Act) (d : Option Tmp) (v : Value) (t : Nat) : (a.put d v).tmps.getD t undef = if d = some t ∧ t < a.tmps.size then v else a.tmps.getD t undef := by
  cases d with
  | none => simp [Act.put]
  | some d =>
    simp only [Act.put, Array.getD_eq_getD_getElem?]
    by_cases h : d = t
    · subst h
      by_cases hs : d < a.tmps.size
      · simp [hs]
      · simp [hs, Array.getElem?_eq_none (Nat.le_of_not_lt hs)]
    · rw [Array.getElem?_setIfInBounds_ne (fun e => h e), if_neg (by simp [h])]

theorem put_size (a : Act) (d : Option Tmp) (v : Value) : (a.put d v).tmps.size = a.tmps.size := by cases d <;> simp [Act.put]
theorem put_defers (a : Act) (d : Option Tmp) (v : Value) : (a.put d v).defers = a.defers := by cases d <;> simp [Act.put]

theorem Env.get_put (e : Env) (d : Option Tmp) (v : AVal) (t : Nat) : (e.put d v).get t = if d = some t then some v else e.get t := by
  cases d with
  | none => simp [Env.put]
  | some d =>
    simp only [Env.put, Env.get]
    by_cases h : d = t
    · subst h; simp
    · have : Nat.beq d t = false := by
        cases hb : Nat.beq d t with
        | false => rfl
        | true => exact absurd (Nat.eq_of_beq_eq_true hb) h
      simp [this, h]

theorem EnvR.put {C : Cx} {m : Nat → Option Pl} {e : Env} {a : Act} (h : EnvR C m e a) {d : Option Tmp} {v : AVal} {cv : Value} (hv : VR m v cv) (hd : ∀ t, d = some t → t < C.n) : EnvR C m (e.put d v) (a.put d cv) := by
  refine ⟨fun t u ht => ?_, h.glob, by rw [put_size]; exact h.size⟩
  rw [Env.get_put] at ht
  rw [put_tmps]
  by_cases e1 : d = some t
  · rw [if_pos e1] at ht; cases ht
    rw [if_pos ⟨e1, by rw [h.size]; exact hd t e1⟩]; exact hv
  · rw [if_neg e1] at ht
    rw [if_neg (fun x => e1 x.1)]
    exact h.tmp t u ht

theorem inL_spec (l : List Nat) (t : Nat) : inL l t = true ↔ t ∈ l := by
  induction l with
  | nil => simp [inL]
  | cons s l ih =>
    simp only [inL]
    cases hb : Nat.beq s t with
    | true => have := Nat.eq_of_beq_eq_true hb; simp [this]
    | false =>
      have : t ≠ s := fun e => by subst e; simp at hb
      simp [ih, this]

theorem Env.get_drop (l : List Nat) (t : Nat) : ∀ (e : Env), t ∉ l → (e.drop l).get t = e.get t
  | [], _ => rfl
  | (s, v) :: e, h => by
    simp only [Env.drop]
    cases hb : inL l s with
    | true =>
      have hs : s ∈ l := (inL_spec l s).1 hb
      have hne : Nat.beq s t = false := by
        cases hb2 : Nat.beq s t with
        | false => rfl
        | true => exact absurd (Nat.eq_of_beq_eq_true hb2 ▸ hs) h
      simp only [cond_true, Env.get, hne, cond_false]
      exact Env.get_drop l t e h
    | false =>
      simp only [cond_false, Env.get]
      rw [Env.get_drop l t e h]

theorem Env.get_drop_in (l : List Nat) (t : Nat) : ∀ (e : Env), t ∈ l → (e.drop l).get t = none
  | [], _ => rfl
  | (s, v) :: e, h => by
    simp only [Env.drop]
    cases hb : inL l s with
    | true => simp only [cond_true]; exact Env.get_drop_in l t e h
    | false =>
      have hne : Nat.beq s t = false := by
        cases hb2 : Nat.beq s t with
        | false => rfl
        | true => rw [Nat.eq_of_beq_eq_true hb2, (inL_spec l t).2 h] at hb; cases hb
      simp only [cond_false, Env.get, hne]
      exact Env.get_drop_in l t e h

theorem Env.get_append (e e' : Env) (t : Nat) : Env.get (e ++ e') t = match e.get t with | some v => some v | none => e'.get t := by
  induction e with
  | nil => rfl
  | cons x e ih =>
    obtain ⟨s, v⟩ := x
    simp only [List.cons_append, Env.get]
    cases Nat.beq s t <;> simp [ih]

/-- What was packed is in the environment that it is unpacked to. -/
theorem pack_spec {Rt : Type} {r : Rt} (e : Env) : ∀ (l : Lv) (K : l.ty → Option Rt), e.pack l K = some r → ∃ x, K x = some r ∧ ∀ t v, (l.env x).get t = some v → e.get t = some v
  | [], K, h => ⟨(), h, fun t v ht => by simp [Lv.env, Env.get] at ht⟩
  | [x], K, h => by
    simp only [Env.pack, Env.getK] at h
    split at h
    · rename_i u hu
      obtain ⟨y, h1, h2⟩ := asK_spec h
      refine ⟨y, h2, fun t v ht => ?_⟩
      simp only [Lv.env, Env.get] at ht
      cases hb : Nat.beq x.1 t with
      | true => rw [hb] at ht; simp at ht; subst ht; rw [← Nat.eq_of_beq_eq_true hb, h1]; exact hu
      | false => rw [hb] at ht; simp at ht
    · cases h
  | x :: y :: l, K, h => by
    simp only [Env.pack, Env.getK] at h
    split at h
    · rename_i u hu
      obtain ⟨a, h1, h2⟩ := asK_spec h
      obtain ⟨b, h3, h4⟩ := pack_spec e (y :: l) _ h2
      refine ⟨(a, b), h3, fun t v ht => ?_⟩
      simp only [Lv.env, Env.get] at ht
      cases hb : Nat.beq x.1 t with
      | true => rw [hb] at ht; simp at ht; subst ht; rw [← Nat.eq_of_beq_eq_true hb, h1]; exact hu
      | false => rw [hb] at ht; exact h4 t v (by simpa using ht)
    · cases h

theorem exEq_spec {a b : Ex} (h : exEq a b = true) : a = b := by
  cases a <;> cases b <;> simp_all [exEq]

theorem packJ_spec {Rt : Type} {r : Rt} (e : Env) (ex : Ex) : ∀ (js : List (Ex × Lv)) (K : JT js → Option Rt), packJ js ex e K = some r →
    ∃ y, K y = some r ∧ ∀ {Ro : Type} (e0 : Env) (σ : Heap) (K2 : Ex → Env → Heap → Option Ro), ∃ x, elimJ js y e0 σ K2 = K2 ex (x ++ e0) σ ∧ ∀ t v, Env.get x t = some v → e.get t = some v
  | [], K, h => by simp [packJ] at h
  | [x], K, h => by
    simp only [packJ] at h
    cases hb : exEq x.1 ex with
    | false => rw [hb] at h; cases h
    | true =>
      rw [hb] at h; simp only [cond_true] at h
      have he : x.1 = ex := exEq_spec hb
      obtain ⟨y, h1, h2⟩ := pack_spec e x.2 _ h
      exact ⟨y, h1, fun e0 σ K2 => ⟨x.2.env y, by simp only [elimJ, he], h2⟩⟩
  | x :: z :: l, K, h => by
    simp only [packJ] at h
    cases hb : exEq x.1 ex with
    | false =>
      rw [hb] at h; simp only [cond_false] at h
      obtain ⟨y, h1, h2⟩ := packJ_spec e ex (z :: l) _ h
      refine ⟨.inr y, h1, fun e0 σ K2 => ?_⟩
      obtain ⟨q, h3, h4⟩ := h2 e0 σ K2
      exact ⟨q, by simp only [elimJ]; exact h3, h4⟩
    | true =>
      rw [hb] at h; simp only [cond_true] at h
      have he : x.1 = ex := exEq_spec hb
      obtain ⟨y, h1, h2⟩ := pack_spec e x.2 _ h
      exact ⟨.inl y, h1, fun e0 σ K2 => ⟨x.2.env y, by simp only [elimJ, he], h2⟩⟩

theorem mem_dsts (os : List Oper) : ∀ (acc : List Nat) (t : Nat), t ∈ dsts os acc ↔ (∃ o ∈ os, o.dst = some t) ∨ t ∈ acc := by
  induction os with
  | nil => simp [dsts]
  | cons o os ih =>
    intro acc t
    simp only [dsts]
    split
    · rename_i d hd
      rw [ih]; simp [hd]; constructor
      · rintro (h | h | h)
        · exact .inl (.inr h)
        · exact .inl (.inl h.symm)
        · exact .inr h
      · rintro ((h | h) | h)
        · exact .inr (.inl h.symm)
        · exact .inl h
        · exact .inr (.inr h)
    · rename_i hd
      rw [ih]; simp [hd]

/-- Operations in their order. -/
theorem dops_sound {C : Cx} (hC : ∀ f s, C.calls f = some s → SpecOk C.P C.NG f s) {B : Nat → Prop} {w0 : Base} {ops : Array Oper} {Rt : Type} {K : Env → Heap → Option Rt} {r : Rt} {Q : Exit → Act → World → Prop} {m0 : Nat → Option Pl} {a0 : Act}
    (hq : ∀ e' σ' m' a' w', K e' σ' = some r → After C B w0 m0 a0 (dsts ops.toList []) e' σ' m' a' w' → Q .normal a' w') :
    ∀ (os : List Oper) (k : Nat) (e : Env) (σ : Heap) (m : Nat → Option Pl) (a : Act) (w : World), (w0.pm = true → pureOps C.calls os = true) → (∀ j : Nat, os[j]? = ops[k + j]?) → dops C ops.toList os e σ K = some r →
      After C B w0 m0 a0 (dsts ops.toList []) e σ m a w → wpOps C.P ops Q (List.range' k os.length) a w
  | [], k, e, σ, m, a, w, _, _, h, hA => by simp only [List.length_nil, List.range'_zero, wpOps]; exact hq e σ m a w h hA
  | o :: os, k, e, σ, m, a, w, hpm, hos, h, hA => by
    have hpo : w0.pm = true → pureOp C.calls o = true := fun hx => by
      have := hpm hx; simp only [pureOps] at this
      cases hp : pureOp C.calls o with
      | true => rfl
      | false => rw [hp] at this; cases this
    have hps : w0.pm = true → pureOps C.calls os = true := fun hx => by
      have := hpm hx; simp only [pureOps, hpo hx] at this; exact this
    have ho : ops[k]? = some o := by have := hos 0; simpa using this.symm
    have hmem : o ∈ ops.toList := by rw [← Array.getElem?_toList] at ho; exact List.mem_of_getElem? ho
    have hrest : ∀ j : Nat, os[j]? = ops[k + 1 + j]? := fun j => by have := hos (j + 1); rw [show k + 1 + j = k + (j + 1) by omega]; simpa using this
    simp only [List.length_cons, List.range'_succ, wpOps, ho]
    simp only [dops] at h
    cases hb : dstOk C.n o.dst with
    | false => rw [hb] at h; cases h
    | true =>
      rw [hb] at h
      simp only [cond_true] at h
      have hd : ∀ t, o.dst = some t → t < C.n := fun t ht => by rw [ht] at hb; simpa [dstOk, Nat.blt_eq] using hb
      have hdin : ∀ t, o.dst = some t → t ∈ dsts ops.toList [] := fun t ht => (mem_dsts _ _ _).2 (.inl ⟨o, hmem, ht⟩)
      -- a value has been put
      have step : ∀ (e1 : Env) (v : AVal) (cv : Value) (σ1 : Heap) (m1 : Nat → Option Pl) (w1 : World), (∀ m', Sub m m' → EnvR C m' e1 a) → Sub m m1 → R B w0 m1 σ1 w1 → VR m1 v cv → dops C ops.toList os (e1.put o.dst v) σ1 K = some r →
          wpOps C.P ops Q (List.range' (k + 1) os.length) (a.put o.dst cv) w1 := fun e1 v cv σ1 m1 w1 he1 S hR1 hv hk =>
        dops_sound hC hq os (k + 1) _ σ1 m1 _ w1 hps hrest hk
          ⟨hA.sub.trans S, hR1, (he1 m1 S).put hv hd, by rw [put_defers]; exact hA.defers, fun t ht => by
            rw [put_tmps, if_neg (fun x => ht (hdin t x.1))]; exact hA.frame t ht⟩
      have undefVR : ∀ m', VR m' (.tup []) undef := fun m' => by simp only [VR]; exact ⟨[], rfl, by simp [VRs]⟩
      have run : ∀ (e1 : Env), (∀ m', Sub m m' → EnvR C m' e1 a) → dop C e1 o σ (fun v σ => dops C ops.toList os (e1.put o.dst v) σ K) = some r →
          o.wp C.P a w (wpOps C.P ops Q (List.range' (k + 1) os.length)) Q := fun e1 he1 hk =>
        dop_sound hC hA.r hpo (he1 m (Sub.refl m)) hk fun cv w1 ⟨v, σ1, m1, g1, g2, g3, g4⟩ => step e1 v cv σ1 m1 w1 he1 g2 g3 g4 g1
      split at h
      · rename_i hg
        rw [if_pos (by simp [Region.wanted, hg])]
        exact .inl (run e (fun m' S => hA.env.mono S) h)
      · rename_i j want hg
        split at h
        · rename_i oj hoj
          split at h
          · rename_i t hdt
            split at h
            · rename_i c hc
              have hval := hA.env.tmp t _ hc
              simp only [VR] at hval
              have hin : a.tmps[t]? = some (.bool c) := by
                rw [Array.getD_eq_getD_getElem?] at hval
                cases hx : a.tmps[t]? with
                | none => rw [hx] at hval; simp [undef] at hval
                | some x => rw [hx] at hval; simpa using hval
              have hyield : yielded ops a.tmps j = some c := by
                rw [Array.getElem?_toList] at hoj
                simp [yielded, hoj, hdt, hin]
              have hwant : Region.wanted o (yielded ops a.tmps) = (c == want) := by
                simp only [Region.wanted, hg, hyield]
                cases c <;> cases want <;> rfl
              have he1 : ∀ c' : Bool, c = c' → ∀ m', Sub m m' → EnvR C m' (e.put (some t) (.bool c')) a := fun c' ec m' S => by
                have hE := hA.env.mono S
                refine ⟨fun s u hs => ?_, hE.glob, hE.size⟩
                rw [Env.get_put] at hs
                by_cases e2 : some t = some s
                · rw [if_pos e2] at hs; cases hs; cases e2; rw [hval, ec]; simp [VR]
                · rw [if_neg e2] at hs; exact hE.tmp s u hs
              rw [hwant]
              cases c with
              | true =>
                simp only [cond_true] at h
                cases want with
                | true => simp only [cond_true] at h; rw [if_pos (by decide)]; exact .inl (run _ (he1 true rfl) h)
                | false => simp only [cond_false] at h; rw [if_neg (by decide)]; exact step _ _ _ σ m w (he1 true rfl) (Sub.refl m) hA.r (undefVR m) h
              | false =>
                simp only [cond_false] at h
                cases want with
                | true => simp only [cond_true] at h; rw [if_neg (by decide)]; exact step _ _ _ σ m w (he1 false rfl) (Sub.refl m) hA.r (undefVR m) h
                | false => simp only [cond_false] at h; rw [if_pos (by decide)]; exact .inl (run _ (he1 false rfl) h)
            · rename_i hc
              have hval := hA.env.tmp t _ hc
              simp only [VR] at hval
              obtain ⟨vs, hval, _⟩ := hval
              have hyield : yielded ops a.tmps j = none := by
                rw [Array.getElem?_toList] at hoj
                simp only [yielded, hoj, Option.bind_some, hdt]
                rw [Array.getD_eq_getD_getElem?] at hval
                cases hx : a.tmps[t]? with
                | none => rfl
                | some x => rw [hx] at hval; simp only [Option.getD_some] at hval; rw [hval]
              have hwant : Region.wanted o (yielded ops a.tmps) = false := by
                simp only [Region.wanted, hg, hyield]; rfl
              rw [hwant, if_neg (by decide)]
              exact step e _ _ σ m w (fun m' S => hA.env.mono S) (Sub.refl m) hA.r (undefVR m) h
            · cases h
          · cases h
        · cases h

theorem dops_pure {C : Cx} {all : List Oper} {Rt : Type} : ∀ (os : List Oper) (e : Env) (σ : Heap) (K K' : Env → Heap → Option Rt), pureOps C.calls os = true → (∀ e, K e σ = K' e σ) → dops C all os e σ K = dops C all os e σ K'
  | [], e, σ, K, K', _, h => h e
  | o :: os, e, σ, K, K', hp, h => by
    simp only [pureOps] at hp
    cases hb : pureOp C.calls o with
    | false => rw [hb] at hp; cases hp
    | true =>
      rw [hb] at hp
      have ih := fun e => dops_pure (C := C) (all := all) os e σ K K' hp h
      have hd := fun e1 => dop_pure (C := C) (e := e1) (o := o) (σ := σ) (K := fun v σ => dops C all os (e1.put o.dst v) σ K) (K' := fun v σ => dops C all os (e1.put o.dst v) σ K') hb (fun v => ih _)
      simp only [dops, ih, hd]

theorem EnvR.ofDrop {C : Cx} {m m' : Nat → Option Pl} {e : Env} {a a' : Act} {ws : List Nat} (h : EnvR C m e a) (S : Sub m m') (hs : a'.tmps.size = C.n) (hf : ∀ t, t ∉ ws → a'.tmps.getD t undef = a.tmps.getD t undef) : EnvR C m' (e.drop ws) a' := by
  refine ⟨fun t v ht => ?_, (h.mono S).glob, hs⟩
  by_cases hin : t ∈ ws
  · rw [Env.get_drop_in _ _ _ hin] at ht; cases ht
  · rw [Env.get_drop _ _ _ hin] at ht
    rw [hf t hin]; exact VR.mono S _ _ (h.tmp t v ht)

theorem EnvR.append {C : Cx} {m : Nat → Option Pl} {x e : Env} {a : Act} (h1 : ∀ t v, Env.get x t = some v → VR m v (a.tmps.getD t undef)) (h2 : EnvR C m e a) : EnvR C m (x ++ e) a := by
  refine ⟨fun t v ht => ?_, h2.glob, h2.size⟩
  rw [Env.get_append] at ht
  cases hx : Env.get x t with
  | none => rw [hx] at ht; exact h2.tmp t v ht
  | some u => rw [hx] at ht; cases ht; exact h1 t v hx

def ExR : Exit → Ex → Prop
  | .normal, .normal => True
  | .exit a, .exit b => a = b
  | .ret, .ret => True
  | _, _ => False

theorem mem_wr (c : Code) : ∀ (acc : List Nat) (t : Nat), t ∈ wr c acc ↔ t ∈ wr c [] ∨ t ∈ acc := by
  induction c with
  | region id ops draw => intro acc t; simp only [wr]; rw [mem_dsts, mem_dsts]; simp
  | seq a b iha ihb => intro acc t; simp only [wr]; rw [iha, ihb, iha (wr b [])]; simp [or_assoc]
  | cond x a b iha ihb => intro acc t; simp only [wr]; rw [iha, ihb, iha (wr b [])]; simp [or_assoc]
  | block id a iha => intro acc t; simp only [wr]; exact iha acc t
  | loop a iha => intro acc t; simp only [wr]; exact iha acc t
  | scope a iha => intro acc t; simp only [wr]; exact iha acc t
  | _ => intro acc t; simp [wr]

theorem loopW_spec {X Y : Type} {f : X → Heap → Option ((X ⊕ Y) × Heap)} {x : X} {σ : Heap} {r : Y × Heap} (h : loopW f x σ = some r) : ∃ n, loopN f n x σ = some r := by
  unfold loopW at h
  split at h
  · rename_i hx
    cases h
    exact ⟨_, hx.choose_spec.choose_spec⟩
  · cases h

theorem loopP_spec {X Y : Type} {f : X → Option (X ⊕ Y)} {x : X} {r : Y} (h : loopP f x = some r) : ∃ n, loopPN f n x = some r := by
  unfold loopP at h
  split at h
  · rename_i hx
    cases h
    exact ⟨_, hx.choose_spec.choose_spec⟩
  · cases h

theorem chk_spec {Rt : Type} {p : Prop} {X : Option Rt} {r : Rt} (h : chk p X = some r) : p ∧ X = some r := by
  unfold chk at h
  split at h
  · exact ⟨‹_›, h⟩
  · cases h
theorem chk_pos {Rt : Type} {p : Prop} {X : Option Rt} (h : p) : chk p X = X := by unfold chk; rw [if_pos h]

end Go.Proofs.YtgneblbblihaoaaDoor.A
