/- Regions whose order is open: sound. -/
import Derived.Test.YtgneblbblihaoaaDoorB6
set_option linter.all false
namespace Go.Proofs.YtgneblbblihaoaaDoor.A
open Go Go.RowKit

def cut (n : Nat) (m : Nat → Option Pl) : Nat → Option Pl := fun l => if l < n then m l else none
theorem cut_sub {n : Nat} {m : Nat → Option Pl} : Sub (cut n m) m := fun l p h => by
  unfold cut at h; split at h
  · exact h
  · cases h
theorem cut_mono {n k : Nat} {m m' : Nat → Option Pl} (hn : n ≤ k) (S : Sub m m') : Sub (cut n m) (cut k m') := fun l p h => by
  unfold cut at h ⊢
  split at h
  · rw [if_pos (by omega)]; exact S _ _ h
  · cases h
theorem cut_lt {n l : Nat} {m : Nat → Option Pl} (h : l < n) : cut n m l = m l := by unfold cut; rw [if_pos h]
theorem cut_dom {n l : Nat} {m : Nat → Option Pl} {p : Pl} (h : cut n m l = some p) : l < n := by
  unfold cut at h; split at h
  · assumption
  · cases h

theorem Env.get_only (e : Env) : ∀ (l : List Nat) (t : Nat) (v : AVal), (e.only l).get t = some v → t ∈ l ∧ e.get t = some v
  | [], t, v, h => by simp [Env.only, Env.get] at h
  | s :: l, t, v, h => by
    simp only [Env.only] at h
    split at h
    · rename_i u hu
      simp only [Env.get] at h
      cases hb : Nat.beq s t with
      | true =>
        rw [hb] at h
        have := Nat.eq_of_beq_eq_true hb
        subst this
        simp at h; subst h
        exact ⟨List.mem_cons_self, hu⟩
      | false =>
        rw [hb] at h
        obtain ⟨h1, h2⟩ := Env.get_only e l t v (by simpa using h)
        exact ⟨List.mem_cons_of_mem _ h1, h2⟩
    · obtain ⟨h1, h2⟩ := Env.get_only e l t v h
      exact ⟨List.mem_cons_of_mem _ h1, h2⟩

theorem opTmps_looks {ops : Array Oper} {o : Oper} {t : Nat} (h : t ∈ opTmps o) : t ∈ o.looksAt ops := by
  unfold Oper.looksAt
  exact List.mem_append_left _ h

section
variable {Rt : Type} {C : Cx} {e : Env} {σ τ : Heap} {r : Rt}

/-- What makes an object makes the same one in every heap of as many names. -/
theorem alloc_at {o : Oper} (ha : allocOp o = true) {K : AVal → Heap → Option Rt} (h : dop C e o σ K = some r) :
    ∃ ob v, ob.rw = true ∧ K v (σ.new ob) = some r ∧ ∀ τ : Heap, τ.next = σ.next → ∀ {R2 : Type} (K2 : AVal → Heap → Option R2), dop C e o τ K2 = K2 v (τ.new ob) := by
  cases hop : o.op
  all_goals simp only [allocOp, hop] at ha
  case alloc t =>
    simp only [dop, hop] at h
    obtain ⟨ti, h, e1⟩ := ti_det h
    exact ⟨_, _, rfl, h, fun τ hτ R2 K2 => by simp only [dop, hop]; rw [e1]; simp only [newK, hτ]⟩
  case box t x =>
    simp only [dop, hop] at h
    obtain ⟨ti, h, e1⟩ := ti_det h
    obtain ⟨v, h, e2⟩ := ev_det h
    obtain ⟨vs, h, e3⟩ := cellsK_det h
    exact ⟨_, _, rfl, h, fun τ hτ R2 K2 => by simp only [dop, hop]; rw [e1, e2, e3]; simp only [newK, hτ]⟩
  case buildSlice t n ps =>
    simp only [dop, hop] at h
    obtain ⟨ti, h, e1⟩ := ti_det h
    split at h
    · rename_i el hk
      obtain ⟨ei, h, e2⟩ := ti_det h
      cases hb : Nat.ble (n * ei.size) 16777216 with
      | false => rw [hb] at h; cases h
      | true =>
        rw [hb] at h
        simp only [cond_true] at h
        obtain ⟨cs, h, e3⟩ := fillK_det h
        exact ⟨_, _, rfl, h, fun τ hτ R2 K2 => by simp only [dop, hop]; rw [e1]; simp only [hk]; rw [e2]; simp only [hb, cond_true]; rw [e3]; simp only [newK, hτ]⟩
    · cases h
  case makeSlice t x y =>
    simp only [dop, hop] at h
    obtain ⟨ti, h, e1⟩ := ti_det h
    split at h
    · rename_i el hk
      obtain ⟨ei, h, e2⟩ := ti_det h
      obtain ⟨l, h, e3⟩ := ev_det h
      obtain ⟨c, h, e4⟩ := ev_det h
      obtain ⟨l', h, e5⟩ := intK_det h
      obtain ⟨c', h, e6⟩ := intK_det h
      unfold mkS at h
      split at h
      · rename_i hc
        exact ⟨_, _, rfl, h, fun τ hτ R2 K2 => by simp only [dop, hop]; rw [e1]; simp only [hk]; rw [e2, e3, e4, e5, e6]; simp only [mkS]; rw [if_pos hc]; simp only [newK, hτ]⟩
      · cases h
    · cases h
  all_goals cases ha

/-- What does not look at the heap does the same in every heap. -/
theorem dop_blind {o : Oper} (hp : pureOp C.calls o = true) (hrd : readsOp C o = false) {K : AVal → Option Rt} : Le (dop C e o σ fun v _ => K v) (dop C e o τ fun v _ => K v) := by
  cases hop : o.op
  all_goals simp only [pureOp, hop] at hp
  all_goals simp only [readsOp, hop] at hrd
  all_goals simp only [dop, hop]
  case move => exact Le.rfl
  case assign => exact Le.rfl
  case pick => exact Le.rfl
  case build => exact Le.rfl
  case nilCheck => exact Le.rfl
  case unOp => exact Le.rfl
  case convert => exact Le.rfl
  case makeInterface => exact Le.rfl
  case makeFunc => exact Le.rfl
  case fieldAddr => exact Le.rfl
  case field => exact Le.rfl
  case index => exact Le.rfl
  case extract => exact Le.rfl
  case load => cases hrd
  case slice => cases hrd
  case indexAddr => cases hrd
  case binOp op t x y f =>
    unfold Cx.ti
    cases ht : tiOf C.P t with
    | none => exact Le.rfl
    | some ti =>
      rw [ht] at hrd
      dsimp only at hrd ⊢
      refine ev_le fun a => ev_le fun b => ?_
      unfold binK
      split
      case h_8 hk => rw [hk] at hrd; cases hrd
      all_goals exact Le.rfl
  case call c =>
    split at hp
    case h_5 => cases hp
    all_goals (rename_i hc; simp only [hc] at hrd ⊢)
    · revert hrd
      generalize c.argTypes.toList = ts
      generalize c.args.toList = args
      intro hrd
      match ts, args with
      | [], _ => exact Le.rfl
      | [t], [] => exact Le.rfl
      | [t], [x] =>
        dsimp only at hrd
        show Le (C.ti t _) (C.ti t _)
        unfold Cx.ti
        cases ht : tiOf C.P t with
        | none => exact Le.rfl
        | some ti =>
          rw [ht] at hrd
          dsimp only at hrd ⊢
          refine ev_le fun v => ?_
          split
          · exact Le.rfl
          · exact Le.rfl
          · rename_i hk; rw [hk] at hrd; cases hrd
          · exact Le.rfl
      | [t], x :: y :: l => exact Le.rfl
      | t :: u :: l, _ => exact Le.rfl
    · exact maxK_le
    · exact minK_le
    · cases hrd
  all_goals cases hp
end

theorem ld_set {listed : Array Bool} {i j : Nat} (hi : i < listed.size) : Ld (listed.setIfInBounds i true) j ↔ Ld listed j ∨ j = i := by
  by_cases h : i = j
  · subst h
    simp [Ld, hi]
  · unfold Ld
    rw [getD_set_ne false h]
    constructor
    · exact .inl
    · rintro (h1 | h1)
      · exact h1
      · exact absurd h1.symm h

structure Reg (C : Cx) (ops : Array Oper) : Prop where
  sel : Region.noSelect ops = true
  dst : ∀ (i j : Nat) oi oj t, i ≠ j → ops[i]? = some oi → ops[j]? = some oj → oi.dst = some t → oj.dst ≠ some t
  back : ∀ (j : Nat) (o : Oper), ops[j]? = some o → ∀ e ∈ o.after, Region.binds .any e = true → e.on < j
  lex : ∀ (a b : Nat) oa ob, a < b → ops[a]? = some oa → ops[b]? = some ob → (∃ e ∈ ob.after, Region.binds .any e = true ∧ e.on = a) ∨ oa.apart ops ob = true
  chain : ∀ (j : Nat) oj, ops[j]? = some oj → noisy C oj = true → ∀ (a : Nat) oa, a < j → ops[a]? = some oa → pureOp C.calls oa = false → ∀ listed, Closed ops listed → (∀ e ∈ oj.after, Region.binds .any e = true → Ld listed e.on) → Ld listed a

theorem drawOk_spec {C : Cx} {ops : Array Oper} (h : drawOk C.calls ops = true) : Reg C ops := by
  simp only [drawOk, Bool.and_eq_true] at h
  obtain ⟨⟨⟨h1, h2⟩, h3⟩, h4⟩ := h
  have hos : ∀ k : Nat, ops.toList[k]? = ops[0 + k]? := fun k => by simp
  obtain ⟨h5, h6⟩ := lexAll_spec ops.toList 0 h3 hos
  obtain ⟨_, h7⟩ := dstNew_spec ops.toList [] h2
  refine ⟨h1, fun i j oi oj t hij hi hj hti htj => ?_, fun j o => h5 j o (Nat.zero_le _), fun a b oa ob => h6 a b oa ob (Nat.zero_le _), fun j oj hj hn a oa haj ha hp => ?_⟩
  · rcases Nat.lt_or_ge i j with hlt | hge
    · exact h7 i j oi oj t hlt (by simpa using hi) (by simpa using hj) hti htj
    · exact h7 j i oj oi t (by omega) (by simpa using hj) (by simpa using hi) htj hti
  · exact chain_spec (fun j o => h5 j o (Nat.zero_le _)) ops.toList 0 [] h4 hos (fun a oa h => by omega) j oj (Nat.zero_le _) hj hn a oa haj ha hp

end Go.Proofs.YtgneblbblihaoaaDoor.A
