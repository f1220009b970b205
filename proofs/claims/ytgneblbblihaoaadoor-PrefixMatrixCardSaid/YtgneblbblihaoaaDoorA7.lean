/- Each operation, whole, II. -/
import Derived.Test.YtgneblbblihaoaaDoorA6
set_option linter.all false
namespace Go.Proofs.YtgneblbblihaoaaDoor.A
open Go Go.RowKit

section
variable {Rt : Type} {C : Cx} {B : Nat → Prop} {w0 : Base} {m : Nat → Option Pl} {σ : Heap} {w : World} {r : Rt} {e : Env} {a : Act}

theorem tk_int {d : TypeDesc} {k : IntKind} (h : tkOf d = .int k) : d = .int k := by cases d <;> simp [tkOf] at h; subst h; rfl
theorem tk_bool {d : TypeDesc} (h : tkOf d = .bool) : d = .bool := by cases d <;> simp [tkOf] at h; rfl
theorem tk_str {d : TypeDesc} (h : tkOf d = .str) : d = .string := by cases d <;> simp [tkOf] at h; rfl
theorem tk_ptr {d : TypeDesc} {e : TypeId} (h : tkOf d = .ptr e) : d = .pointer e := by cases d <;> simp [tkOf] at h; subst h; rfl
theorem tk_slice {d : TypeDesc} {e : TypeId} (h : tkOf d = .slice e) : d = .slice e := by cases d <;> simp [tkOf] at h; subst h; rfl
theorem tk_map {d : TypeDesc} {k e : TypeId} (h : tkOf d = .map k e) : d = .map k e := by cases d <;> simp [tkOf] at h; obtain ⟨rfl, rfl⟩ := h; rfl
theorem tk_arr {d : TypeDesc} {n : Nat} {e : TypeId} (h : tkOf d = .arr n e) : d = .array n e := by cases d <;> simp [tkOf] at h; obtain ⟨rfl, rfl⟩ := h; rfl
theorem tk_strct {d : TypeDesc} {fs : List (Nat × TypeId)} (h : tkOf d = .strct fs) : ∃ F, d = .struct F ∧ fs = F.toList.map fun f => (f.offset, f.type) := by
  cases d <;> simp [tkOf] at h; exact ⟨_, rfl, h.symm⟩
theorem tk_func {d : TypeDesc} (h : tkOf d = .func) : ∃ p q v, d = .func p q v := by cases d <;> simp [tkOf] at h; exact ⟨_, _, _, rfl⟩
theorem tk_iface {d : TypeDesc} {b : Bool} (h : tkOf d = .iface b) : ∃ ms, d = .interface ms := by cases d <;> simp [tkOf] at h; exact ⟨_, rfl⟩

theorem eqGuard_ok (op : BinOp) (t : TypeId) (x y : Operand) {a b : Value} (h1 : ¬ (a = .nilIface ∧ b = .nilIface) ∨ (isConst x || isConst y) = true) (h2 : ∀ cs ds, ¬ (a = .agg cs ∧ b = .agg ds)) :
    (eqGuard op t x y a b).run C.P w = .ok () w := by
  unfold eqGuard
  cases op
  case eql | neq =>
    simp only [Bool.not_true, Bool.false_eq_true, if_false]
    split
    · rcases h1 with h1 | h1
      · exact absurd ⟨rfl, rfl⟩ h1
      · cases x <;> cases y <;> first | rfl | (simp [isConst] at h1)
    · exact absurd ⟨rfl, rfl⟩ (h2 _ _)
    · rfl
  all_goals rfl

/-- No number, no string, no aggregate. -/
structure Plain (v : Value) : Prop where
  i : ∀ k n, v ≠ .int k n
  f : ∀ k n, v ≠ .float k n
  c : ∀ k p q, v ≠ .complex k p q
  s : ∀ s, v ≠ .string s
  a : ∀ c, v ≠ .agg c

theorem eqP_shape {x y : AVal} {cx : Value} {K' : Bool → Option Rt} (hx : VR m x cx) (hq : eqP x y K' = some r) : Plain cx ∧ cx ≠ .nilIface := by
  unfold eqP at hq
  split at hq <;> first | cases hq | (simp only [VR] at hx; obtain ⟨p, _, rfl⟩ := hx; exact ⟨⟨by simp, by simp, by simp, by simp, by simp⟩, by simp⟩) | (simp only [VR] at hx; subst hx; exact ⟨⟨by simp, by simp, by simp, by simp, by simp⟩, by simp⟩)
theorem eqS_shape {x y : AVal} {cx : Value} {K' : Bool → Option Rt} (hx : VR m x cx) (hq : eqS x y K' = some r) : Plain cx ∧ cx ≠ .nilIface := by
  unfold eqS at hq
  split at hq <;> first | cases hq | (simp only [VR] at hx; obtain ⟨p, cv, o, _, _, _, _, _, rfl⟩ := hx; exact ⟨⟨by simp, by simp, by simp, by simp, by simp⟩, by simp⟩) | (simp only [VR] at hx; subst hx; exact ⟨⟨by simp, by simp, by simp, by simp, by simp⟩, by simp⟩)
theorem eqM_shape {x y : AVal} {cx : Value} {K' : Bool → Option Rt} (hx : VR m x cx) (hq : eqM x y K' = some r) : Plain cx ∧ cx ≠ .nilIface := by
  unfold eqM at hq
  split at hq <;> first | cases hq | (simp only [VR] at hx; obtain ⟨p, _, rfl⟩ := hx; exact ⟨⟨by simp, by simp, by simp, by simp, by simp⟩, by simp⟩) | (simp only [VR] at hx; subst hx; exact ⟨⟨by simp, by simp, by simp, by simp, by simp⟩, by simp⟩)
theorem eqF_shape {x y : AVal} {cx : Value} {K' : Bool → Option Rt} (hx : VR m x cx) (hq : eqF x y K' = some r) : Plain cx ∧ cx ≠ .nilIface := by
  unfold eqF at hq
  split at hq <;> first | cases hq | (simp only [VR] at hx; obtain ⟨p, _, rfl, _⟩ := hx; exact ⟨⟨by simp, by simp, by simp, by simp, by simp⟩, by simp⟩) | (simp only [VR] at hx; subst hx; exact ⟨⟨by simp, by simp, by simp, by simp, by simp⟩, by simp⟩)
theorem eqI_shape {x y : AVal} {cx : Value} {cn : Bool} {T : TypeId → Option TI} {K' : Bool → Option Rt} (hx : VR m x cx) (hq : eqI T σ cn x y K' = some r) : Plain cx := by
  unfold eqI at hq
  split at hq <;> first | cases hq | (simp only [VR] at hx; obtain ⟨p, rfl, _⟩ := hx; exact ⟨by simp, by simp, by simp, by simp, by simp⟩) | (simp only [VR] at hx; subst hx; exact ⟨by simp, by simp, by simp, by simp, by simp⟩)

theorem viaEq {t : TypeId} {X Y : Value} {b : Bool} (hp : Plain X) (hb : (Op.equalIn (9999 + 1) t X Y).run C.P w = .ok b w) :
    (binOp .eql t X Y).run C.P w = .ok (.bool b) w ∧ (binOp .neq t X Y).run C.P w = .ok (.bool !b) w := by
  have h1 : binOp .eql t X Y = (do pure (.bool (← Op.equal t X Y))) := by
    cases X <;> first | rfl | exact absurd rfl (hp.i _ _) | exact absurd rfl (hp.f _ _) | exact absurd rfl (hp.c _ _ _) | exact absurd rfl (hp.s _)
  have h2 : binOp .neq t X Y = (do pure (.bool (!(← Op.equal t X Y)))) := by
    cases X <;> first | rfl | exact absurd rfl (hp.i _ _) | exact absurd rfl (hp.f _ _) | exact absurd rfl (hp.c _ _ _) | exact absurd rfl (hp.s _)
  rw [h1, h2, equal_one]
  simp only [Sem.run_bind, hb, Result.andThen_ok, Sem.run_pure, and_self]

/-- An equality of a plain type. -/
theorem eq_ok {K : AVal → Option Rt} {t : TypeId} {X Y : Value} {xo yo : Operand} {b : Bool} (hp : Plain X) (hb : (Op.equalIn (9999 + 1) t X Y).run C.P w = .ok b w)
    (hg : (isConst xo || isConst yo) = false → ¬ (X = .nilIface ∧ Y = .nilIface)) :
    (K (.bool b) = some r → ∃ v cv, (do eqGuard .eql t xo yo X Y; binOp .eql t X Y : Sem Value).run C.P w = .ok cv w ∧ K v = some r ∧ VR m v cv) ∧
    (K (.bool !b) = some r → ∃ v cv, (do eqGuard .neq t xo yo X Y; binOp .neq t X Y : Sem Value).run C.P w = .ok cv w ∧ K v = some r ∧ VR m v cv) := by
  obtain ⟨v1, v2⟩ := viaEq hp hb
  have guard : ∀ o, (eqGuard o t xo yo X Y).run C.P w = .ok () w := fun o =>
    eqGuard_ok o t xo yo (by cases hc : (isConst xo || isConst yo) with
      | true => exact .inr rfl
      | false => exact .inl (hg hc)) (fun _ _ e => hp.a _ e.1)
  exact ⟨fun h => ⟨.bool b, .bool b, by simp only [Sem.run_bind, guard, Result.andThen_ok, v1], h, by simp [VR]⟩, fun h => ⟨.bool !b, .bool !b, by simp only [Sem.run_bind, guard, Result.andThen_ok, v2], h, by simp [VR]⟩⟩

theorem equalIn_bool {t : TypeId} (hu : C.P.underlying t = some .bool) (n : Nat) (a b : Bool) : (Op.equalIn (n + 1) t (.bool a) (.bool b)).run C.P w = .ok (a == b) w := by
  simp [Op.equalIn, underlying, hu]

theorem binK_sound {K : AVal → Option Rt} {op : BinOp} {t : TypeId} {ti : TI} {i : TypeInfo} {d : TypeDesc} {z : Value} (ht : TiOk C.P t ti i d z) {x y : AVal} {cx cy : Value} {xo yo : Operand} (hR : R B w0 m σ w) (hx : VR m x cx) (hy : VR m y cy)
    (h : binK C op ti σ (isConst xo || isConst yo) x y K = some r) : ∃ v cv, (do eqGuard op t xo yo cx cy; binOp op t cx cy : Sem Value).run C.P w = .ok cv w ∧ K v = some r ∧ VR m v cv := by
  have htk := ht.tk
  unfold binK at h
  split at h
  · -- whole numbers
    split at h
    · rename_i k a k' b
      simp only [VR] at hx hy; subst hx; subst hy
      have hg : (eqGuard op t xo yo (.int k a) (.int k' b)).run C.P w = .ok () w := eqGuard_ok op t xo yo (.inl (by simp)) (by simp)
      split at h
      · obtain ⟨v, cv, h1, h2, h3⟩ := shI_sound (C := C) (w := w) (m := m) (k' := k') (.inl rfl) h t
        exact ⟨v, cv, by simp [hg, h1], h2, h3⟩
      · obtain ⟨v, cv, h1, h2, h3⟩ := shI_sound (C := C) (w := w) (m := m) (k' := k') (.inr rfl) h t
        exact ⟨v, cv, by simp [hg, h1], h2, h3⟩
      · rename_i hns hnr
        split at h
        · rename_i e
          subst e
          obtain ⟨v, cv, h1, h2, h3, h4⟩ := binI_sound (C := C) (w := w) (m := m) ⟨fun e => hns e, fun e => hnr e⟩ h
          exact ⟨v, cv, by simp [hg, h4 t, h1], h2, h3⟩
        · cases h
    · cases h
  · -- strings
    split at h
    · rename_i a b
      simp only [VR] at hx hy; subst hx; subst hy
      exact ⟨_, _, by simp [show (eqGuard .eql t xo yo (.string a) (.string b)).run C.P w = .ok () w from eqGuard_ok .eql t xo yo (.inl (by simp)) (by simp), binOp, Op.stringOp]; rfl, h, by simp [VR]⟩
    · rename_i a b
      simp only [VR] at hx hy; subst hx; subst hy
      exact ⟨_, _, by simp [show (eqGuard .neq t xo yo (.string a) (.string b)).run C.P w = .ok () w from eqGuard_ok .neq t xo yo (.inl (by simp)) (by simp), binOp, Op.stringOp]; rfl, h, by simp [VR]⟩
    · cases h
  · rename_i hk
    rw [hk] at htk
    have hd := tk_bool htk.symm; subst hd
    split at h
    · simp only [VR] at hx hy; subst hx; subst hy
      exact (eq_ok ⟨by simp, by simp, by simp, by simp, by simp⟩ (equalIn_bool ht.und 9999 _ _) (fun _ => by simp)).1 h
    · simp only [VR] at hx hy; subst hx; subst hy
      exact (eq_ok ⟨by simp, by simp, by simp, by simp, by simp⟩ (equalIn_bool ht.und 9999 _ _) (fun _ => by simp)).2 h
    · cases h
  · rename_i el hk
    rw [hk] at htk
    have hd := tk_ptr htk.symm; subst hd
    obtain ⟨ei, i2, d2, z2, ht2, h⟩ := Cx.ti_spec h
    cases hz : Nat.beq ei.size 0 with
    | true => rw [hz] at h; cases h
    | false =>
      rw [hz] at h
      simp only [cond_false] at h
      have hsz : ei.size ≠ 0 := fun e => by rw [e] at hz; cases hz
      split at h
      · obtain ⟨s1, s2⟩ := eqP_shape hx h
        obtain ⟨b, h1, h2⟩ := eqP_sound (w := w) hx hy h ht.und ht2 hsz 9999
        exact (eq_ok s1 h1 (fun _ e => s2 e.1)).1 h2
      · obtain ⟨s1, s2⟩ := eqP_shape hx h
        obtain ⟨b, h1, h2⟩ := eqP_sound (w := w) hx hy h ht.und ht2 hsz 9999
        exact (eq_ok s1 h1 (fun _ e => s2 e.1)).2 h2
      · cases h
  · rename_i el hk
    rw [hk] at htk
    have hd := tk_slice htk.symm; subst hd
    split at h
    · obtain ⟨s1, s2⟩ := eqS_shape hx h
      obtain ⟨b, h1, h2⟩ := eqS_sound (w := w) hx hy h ht.und 9999
      exact (eq_ok s1 h1 (fun _ e => s2 e.1)).1 h2
    · obtain ⟨s1, s2⟩ := eqS_shape hx h
      obtain ⟨b, h1, h2⟩ := eqS_sound (w := w) hx hy h ht.und 9999
      exact (eq_ok s1 h1 (fun _ e => s2 e.1)).2 h2
    · cases h
  · rename_i kt el hk
    rw [hk] at htk
    have hd := tk_map htk.symm; subst hd
    split at h
    · obtain ⟨s1, s2⟩ := eqM_shape hx h
      obtain ⟨b, h1, h2⟩ := eqM_sound (w := w) hx hy h ht.und 9999
      exact (eq_ok s1 h1 (fun _ e => s2 e.1)).1 h2
    · obtain ⟨s1, s2⟩ := eqM_shape hx h
      obtain ⟨b, h1, h2⟩ := eqM_sound (w := w) hx hy h ht.und 9999
      exact (eq_ok s1 h1 (fun _ e => s2 e.1)).2 h2
    · cases h
  · rename_i hk
    rw [hk] at htk
    obtain ⟨p1, p2, p3, hd⟩ := tk_func htk.symm; subst hd
    split at h
    · obtain ⟨s1, s2⟩ := eqF_shape hx h
      obtain ⟨b, h1, h2⟩ := eqF_sound (w := w) hx hy h ht.und 9999
      exact (eq_ok s1 h1 (fun _ e => s2 e.1)).1 h2
    · obtain ⟨s1, s2⟩ := eqF_shape hx h
      obtain ⟨b, h1, h2⟩ := eqF_sound (w := w) hx hy h ht.und 9999
      exact (eq_ok s1 h1 (fun _ e => s2 e.1)).2 h2
    · cases h
  · rename_i bm hk
    rw [hk] at htk
    obtain ⟨ms, hd⟩ := tk_iface htk.symm; subst hd
    split at h
    · have s1 := eqI_shape hx h
      obtain ⟨b, h1, h2, h3⟩ := eqI_sound (C := C) hR hx hy h ht.und 9998
      exact (eq_ok s1 h1 h3).1 h2
    · have s1 := eqI_shape hx h
      obtain ⟨b, h1, h2, h3⟩ := eqI_sound (C := C) hR hx hy h ht.und 9998
      exact (eq_ok s1 h1 h3).2 h2
    · cases h
  · cases h

end
end Go.Proofs.YtgneblbblihaoaaDoor.A
