/- An operation's abstract run asks its continuation once. -/
import Derived.Test.YtgneblbblihaoaaDoorB1
set_option linter.all false
namespace Go.Proofs.YtgneblbblihaoaaDoor.A
open Go Go.RowKit

section
variable {Rt : Type} {C : Cx} {σ : Heap} {r : Rt} {e : Env}

theorem ti_det {t : TypeId} {K : TI → Option Rt} (h : C.ti t K = some r) : ∃ a, K a = some r ∧ ∀ {R2 : Type} (K2 : TI → Option R2), C.ti t K2 = K2 a := by
  unfold Cx.ti at h
  split at h
  · rename_i a ha; exact ⟨a, h, fun K2 => by simp only [Cx.ti, ha]⟩
  · cases h
theorem ev_det {x : Operand} {K : AVal → Option Rt} (h : ev C e x K = some r) : ∃ a, K a = some r ∧ ∀ {R2 : Type} (K2 : AVal → Option R2), ev C e x K2 = K2 a := by
  cases x with
  | tmp t =>
    simp only [ev] at h
    split at h
    · rename_i a ha; exact ⟨a, h, fun K2 => by simp only [ev, ha]⟩
    · cases h
  | const v =>
    simp only [ev] at h
    split at h
    · rename_i a ha; exact ⟨a, h, fun K2 => by simp only [ev, ha]⟩
    · cases h
  | global g =>
    simp only [ev] at h
    cases hb : Nat.blt g C.NG with
    | false => rw [hb] at h; cases h
    | true => rw [hb] at h; exact ⟨_, h, fun K2 => by simp only [ev, hb, cond_true]⟩
  | func f => exact ⟨_, h, fun K2 => rfl⟩
theorem evs_det : ∀ {xs : List Operand} {K : List AVal → Option Rt}, evs C e xs K = some r → ∃ a, K a = some r ∧ ∀ {R2 : Type} (K2 : List AVal → Option R2), evs C e xs K2 = K2 a
  | [], K, h => ⟨[], h, fun K2 => rfl⟩
  | x :: xs, K, h => by
    simp only [evs] at h
    obtain ⟨a, h1, h2⟩ := ev_det h
    obtain ⟨b, h3, h4⟩ := evs_det h1
    exact ⟨a :: b, h3, fun K2 => by simp only [evs]; rw [h2, h4]⟩
theorem asK_det {k : Kd} {v : AVal} {K : k.ty → Option Rt} (h : asK k v K = some r) : ∃ a, K a = some r ∧ ∀ {R2 : Type} (K2 : k.ty → Option R2), asK k v K2 = K2 a := by
  obtain ⟨x, h1, h2⟩ := asK_spec h
  refine ⟨x, h2, fun K2 => ?_⟩
  subst h1
  cases k with
  | I k => simp [asK, Kd.val]
  | B => rfl
  | S => rfl
  | V => rfl
theorem scal_det {v : AVal} {X : Option Rt} (h : scal v X = some r) : X = some r ∧ ∀ {R2 : Type} (X2 : Option R2), scal v X2 = X2 := by
  obtain ⟨h1, h2⟩ := scal_spec h
  exact ⟨h1, fun X2 => by cases v <;> first | rfl | cases h2⟩
theorem nilck_det {v : AVal} {X : Option Rt} (h : nilck v X = some r) : X = some r ∧ ∀ {R2 : Type} (X2 : Option R2), nilck v X2 = X2 := by
  unfold nilck at h
  split at h <;> first | exact ⟨h, fun X2 => rfl⟩ | cases h
theorem fld_det {v : AVal} {o : Nat} {K : AVal → Option Rt} (h : fld v o K = some r) : ∃ a, K a = some r ∧ ∀ {R2 : Type} (K2 : AVal → Option R2), fld v o K2 = K2 a := by
  unfold fld at h
  split at h <;> first | exact ⟨_, h, fun K2 => rfl⟩ | cases h
theorem ixA_det {v : AVal} {sz : Nat} {i : Int} {K : AVal → Option Rt} (h : ixA σ v sz i K = some r) : ∃ a, K a = some r ∧ ∀ {R2 : Type} (K2 : AVal → Option R2), ixA σ v sz i K2 = K2 a := by
  unfold ixA at h
  split at h
  · split at h
    · rename_i hg
      split at h
      · rename_i hc; exact ⟨_, h, fun K2 => by simp only [ixA, hg]; rw [if_pos hc]⟩
      · cases h
    · cases h
  · cases h
theorem ixP_det {v : AVal} {n sz : Nat} {i : Int} {K : AVal → Option Rt} (h : ixP v n sz i K = some r) : ∃ a, K a = some r ∧ ∀ {R2 : Type} (K2 : AVal → Option R2), ixP v n sz i K2 = K2 a := by
  unfold ixP at h
  split at h
  · split at h
    · rename_i hc; exact ⟨_, h, fun K2 => by simp only [ixP]; rw [if_pos hc]⟩
    · cases h
  · cases h
theorem ld_det {a : AVal} {k : Kd} {K : k.ty → Option Rt} (h : ld σ a k K = some r) : ∃ x, K x = some r ∧ ∀ {R2 : Type} (K2 : k.ty → Option R2), ld σ a k K2 = K2 x := by
  unfold ld at h
  split at h
  · split at h
    · rename_i v hv
      obtain ⟨x, h1, h2⟩ := asK_det h
      exact ⟨x, h1, fun K2 => by simp only [ld, hv]; exact h2 K2⟩
    · cases h
  · cases h
theorem ldG_det {a : AVal} {n : Nat} {K : AVal → Option Rt} (h : ldG σ a n K = some r) : ∃ x, K x = some r ∧ ∀ {R2 : Type} (K2 : AVal → Option R2), ldG σ a n K2 = K2 x := by
  unfold ldG at h
  split at h
  · split at h
    · rename_i hv
      split at h
      · rename_i hc; exact ⟨_, h, fun K2 => by simp only [ldG, hv]; rw [if_pos hc]⟩
      · cases h
    · cases h
  · cases h
theorem stC_det {a : AVal} {vs : List AVal} {K : Heap → Option Rt} (h : stC σ a vs K = some r) : ∃ σ', K σ' = some r ∧ (∀ {R2 : Type} (K2 : Heap → Option R2), stC σ a vs K2 = K2 σ') ∧ Grw σ σ' := by
  unfold stC at h
  split at h
  · split at h
    · rename_i hv
      split at h
      · rename_i hc; exact ⟨_, h, fun K2 => by simp only [stC, hv]; rw [if_pos hc], Grw.set rfl⟩
      · cases h
    · cases h
  · cases h
theorem aggK_det {v : AVal} {n : Nat} {K : List AVal → Option Rt} (h : aggK v n K = some r) : ∃ x, K x = some r ∧ ∀ {R2 : Type} (K2 : List AVal → Option R2), aggK v n K2 = K2 x := by
  unfold aggK at h
  split at h
  · split at h
    · rename_i hc; exact ⟨_, h, fun K2 => by simp only [aggK]; rw [if_pos hc]⟩
    · cases h
  · cases h
theorem cellsK_det {i : TI} {v : AVal} {K : List AVal → Option Rt} (h : cellsK i v K = some r) : ∃ x, K x = some r ∧ ∀ {R2 : Type} (K2 : List AVal → Option R2), cellsK i v K2 = K2 x := by
  unfold cellsK at h
  cases hb : isAg i.tk with
  | true =>
    rw [hb] at h
    obtain ⟨x, h1, h2⟩ := aggK_det h
    exact ⟨x, h1, fun K2 => by simp only [cellsK, hb, cond_true]; exact h2 K2⟩
  | false =>
    rw [hb] at h
    simp only [cond_false] at h
    cases hn : Nat.beq i.size 1 with
    | false => rw [hn] at h; cases h
    | true =>
      rw [hn] at h
      simp only [cond_true] at h
      obtain ⟨h1, h2⟩ := scal_det h
      exact ⟨_, h1, fun K2 => by simp only [cellsK, hb, cond_false, hn, cond_true]; exact h2 _⟩
theorem agS_det {v : AVal} {o : Nat} {k : Kd} {K : k.ty → Option Rt} (h : agS v o k K = some r) : ∃ x, K x = some r ∧ ∀ {R2 : Type} (K2 : k.ty → Option R2), agS v o k K2 = K2 x := by
  unfold agS at h
  split at h
  · split at h
    · rename_i u hu
      obtain ⟨x, h1, h2⟩ := asK_det h
      exact ⟨x, h1, fun K2 => by simp only [agS, hu]; exact h2 K2⟩
    · cases h
  · cases h
theorem agG_det {v : AVal} {o n : Nat} {K : AVal → Option Rt} (h : agG v o n K = some r) : ∃ x, K x = some r ∧ ∀ {R2 : Type} (K2 : AVal → Option R2), agG v o n K2 = K2 x := by
  unfold agG at h
  split at h
  · split at h
    · rename_i hc; exact ⟨_, h, fun K2 => by simp only [agG]; rw [if_pos hc]⟩
    · cases h
  · cases h
theorem partK_det {i : TI} {v : AVal} {o : Nat} {K : AVal → Option Rt} (h : partK i v o K = some r) : ∃ x, K x = some r ∧ ∀ {R2 : Type} (K2 : AVal → Option R2), partK i v o K2 = K2 x := by
  unfold partK at h
  cases hb : isAg i.tk with
  | true =>
    rw [hb] at h
    obtain ⟨x, h1, h2⟩ := agG_det h
    exact ⟨x, h1, fun K2 => by simp only [partK, hb, cond_true]; exact h2 K2⟩
  | false =>
    rw [hb] at h
    obtain ⟨x, h1, h2⟩ := agS_det h
    exact ⟨_, h1, fun K2 => by simp only [partK, hb, cond_false]; exact h2 _⟩
theorem loadK_det {i : TI} {a : AVal} {K : AVal → Option Rt} (h : loadK i σ a K = some r) : ∃ x, K x = some r ∧ ∀ {R2 : Type} (K2 : AVal → Option R2), loadK i σ a K2 = K2 x := by
  unfold loadK at h
  cases hb : isAg i.tk with
  | true =>
    rw [hb] at h
    obtain ⟨x, h1, h2⟩ := ldG_det h
    exact ⟨x, h1, fun K2 => by simp only [loadK, hb, cond_true]; exact h2 K2⟩
  | false =>
    rw [hb] at h
    obtain ⟨x, h1, h2⟩ := ld_det h
    exact ⟨_, h1, fun K2 => by simp only [loadK, hb, cond_false]; exact h2 _⟩
theorem fillK_det {place : Nat → Option (Nat × TypeId)} : ∀ {ps : List (Nat × Operand)} {cs : List AVal} {K : List AVal → Option Rt}, fillK C place e cs ps K = some r → ∃ x, K x = some r ∧ ∀ {R2 : Type} (K2 : List AVal → Option R2), fillK C place e cs ps K2 = K2 x
  | [], cs, K, h => ⟨cs, h, fun K2 => rfl⟩
  | (i, x) :: ps, cs, K, h => by
    simp only [fillK] at h
    split at h
    · rename_i off t hp
      obtain ⟨ti, h1, e1⟩ := ti_det h
      obtain ⟨v, h2, e2⟩ := ev_det h1
      obtain ⟨vs, h3, e3⟩ := cellsK_det h2
      split at h3
      · rename_i hc
        obtain ⟨z, h4, e4⟩ := fillK_det h3
        exact ⟨z, h4, fun K2 => by simp only [fillK, hp]; rw [e1, e2, e3, if_pos hc, e4]⟩
      · cases h3
    · cases h
theorem intK_det {v : AVal} {K : Int → Option Rt} (h : intK v K = some r) : ∃ x, K x = some r ∧ ∀ {R2 : Type} (K2 : Int → Option R2), intK v K2 = K2 x := by
  unfold intK at h
  split at h <;> first | exact ⟨_, h, fun K2 => rfl⟩ | cases h
theorem optK_det {x : Option Operand} {K : Option Int → Option Rt} (h : optK C e x K = some r) : ∃ z, K z = some r ∧ ∀ {R2 : Type} (K2 : Option Int → Option R2), optK C e x K2 = K2 z := by
  cases x with
  | none => exact ⟨none, h, fun K2 => rfl⟩
  | some x =>
    simp only [optK] at h
    obtain ⟨v, h1, e1⟩ := ev_det h
    obtain ⟨n, h2, e2⟩ := intK_det h1
    exact ⟨some n, h2, fun K2 => by simp only [optK]; rw [e1, e2]⟩
theorem binI_det {op : BinOp} {k : IntKind} {x y : Int} {K : AVal → Option Rt} (h : binI op k x y K = some r) : ∃ z, K z = some r ∧ ∀ {R2 : Type} (K2 : AVal → Option R2), binI op k x y K2 = K2 z := by
  cases op <;> simp only [binI] at h <;> first
    | cases h
    | exact ⟨_, h, fun K2 => rfl⟩
    | (split at h
       · cases h
       · rename_i hy; exact ⟨_, h, fun K2 => by simp only [binI]; rw [if_neg hy]⟩)
theorem shI_det {op : BinOp} {k : IntKind} {x y : Int} {K : AVal → Option Rt} (h : shI op k x y K = some r) : ∃ z, K z = some r ∧ ∀ {R2 : Type} (K2 : AVal → Option R2), shI op k x y K2 = K2 z := by
  unfold shI at h
  split at h
  · cases h
  · rename_i hy
    split at h <;> first | cases h | exact ⟨_, h, fun K2 => by simp only [shI]; rw [if_neg hy]⟩
theorem eqP_det {x y : AVal} {K : Bool → Option Rt} (h : eqP x y K = some r) : ∃ z, K z = some r ∧ ∀ {R2 : Type} (K2 : Bool → Option R2), eqP x y K2 = K2 z := by
  unfold eqP at h
  split at h <;> first
    | cases h
    | exact ⟨_, h, fun K2 => rfl⟩
    | (split at h
       · rename_i hc; exact ⟨_, h, fun K2 => by simp only [eqP]; rw [if_pos hc]⟩
       · cases h)
theorem eqS_det {x y : AVal} {K : Bool → Option Rt} (h : eqS x y K = some r) : ∃ z, K z = some r ∧ ∀ {R2 : Type} (K2 : Bool → Option R2), eqS x y K2 = K2 z := by
  unfold eqS at h
  split at h <;> first | cases h | exact ⟨_, h, fun K2 => rfl⟩
theorem eqM_det {x y : AVal} {K : Bool → Option Rt} (h : eqM x y K = some r) : ∃ z, K z = some r ∧ ∀ {R2 : Type} (K2 : Bool → Option R2), eqM x y K2 = K2 z := by
  unfold eqM at h
  split at h <;> first | cases h | exact ⟨_, h, fun K2 => rfl⟩
theorem eqF_det {x y : AVal} {K : Bool → Option Rt} (h : eqF x y K = some r) : ∃ z, K z = some r ∧ ∀ {R2 : Type} (K2 : Bool → Option R2), eqF x y K2 = K2 z := by
  unfold eqF at h
  split at h <;> first | cases h | exact ⟨_, h, fun K2 => rfl⟩
theorem eqI_det {T : TypeId → Option TI} {cn : Bool} {x y : AVal} {K : Bool → Option Rt} (h : eqI T σ cn x y K = some r) : ∃ z, K z = some r ∧ ∀ {R2 : Type} (K2 : Bool → Option R2), eqI T σ cn x y K2 = K2 z := by
  unfold eqI at h
  split at h
  · cases cn with
    | true => exact ⟨_, h, fun K2 => rfl⟩
    | false => cases h
  · exact ⟨_, h, fun K2 => rfl⟩
  · exact ⟨_, h, fun K2 => rfl⟩
  · split at h
    · rename_i e1
      split at h
      · rename_i ti hti
        split at h
        · rename_i el htk
          split at h
          · rename_i ei hei
            cases hb : (Nat.beq ei.size 0 || !ti.cmp) with
            | true => rw [hb] at h; cases h
            | false =>
              rw [hb] at h
              simp only [cond_false] at h
              split at h
              · rename_i e2; exact ⟨_, h, fun K2 => by simp only [eqI]; rw [if_pos e1, hti]; simp only [htk, hei, hb, cond_false]; rw [if_pos e2]⟩
              · rename_i e2
                split at h
                · rename_i hg hg'
                  split at h
                  · rename_i hc; exact ⟨_, h, fun K2 => by simp only [eqI]; rw [if_pos e1, hti]; simp only [htk, hei, hb, cond_false]; rw [if_neg e2, hg, hg']; simp only []; rw [if_pos hc]⟩
                  · cases h
                · cases h
          · cases h
        · cases h
      · cases h
    · rename_i e1; exact ⟨_, h, fun K2 => by simp only [eqI]; rw [if_neg e1]⟩
  · cases h
theorem lenV_det {v : AVal} {K : Int → Option Rt} (h : lenV v K = some r) : ∃ z, K z = some r ∧ ∀ {R2 : Type} (K2 : Int → Option R2), lenV v K2 = K2 z := by
  unfold lenV at h
  split at h <;> first | cases h | exact ⟨_, h, fun K2 => rfl⟩
theorem lenM_det {v : AVal} {K : Int → Option Rt} (h : lenM σ v K = some r) : ∃ z, K z = some r ∧ ∀ {R2 : Type} (K2 : Int → Option R2), lenM σ v K2 = K2 z := by
  unfold lenM at h
  split at h
  · split at h
    · rename_i hg; exact ⟨_, h, fun K2 => by simp only [lenM, hg]⟩
    · cases h
  · exact ⟨_, h, fun K2 => rfl⟩
  · cases h
theorem srcK_det {sz : Nat} {v : AVal} {K : List AVal → Nat → Option Rt} (h : srcK σ sz v K = some r) : ∃ xs n, K xs n = some r ∧ ∀ {R2 : Type} (K2 : List AVal → Nat → Option R2), srcK σ sz v K2 = K2 xs n := by
  unfold srcK at h
  split at h
  · exact ⟨_, _, h, fun K2 => rfl⟩
  · split at h
    · rename_i hg
      split at h
      · rename_i hc; exact ⟨_, _, h, fun K2 => by simp only [srcK, hg]; rw [if_pos hc]⟩
      · cases h
    · cases h
  · cases h
theorem mkS_det {sz b : Nat} {z : List AVal} {l c : Int} {K : AVal → Heap → Option Rt} (h : mkS σ sz b z l c K = some r) : ∃ v σ', K v σ' = some r ∧ (∀ {R2 : Type} (K2 : AVal → Heap → Option R2), mkS σ sz b z l c K2 = K2 v σ') ∧ Grw σ σ' := by
  unfold mkS at h
  split at h
  · rename_i hc; exact ⟨_, _, h, fun K2 => by simp only [mkS]; rw [if_pos hc]; rfl, Grw.new rfl⟩
  · cases h
theorem appC_det {sz b : Nat} {s : AVal} {xs : List AVal} {n : Nat} {K : AVal → Heap → Option Rt} (h : appC σ sz b s xs n K = some r) : ∃ v σ', K v σ' = some r ∧ (∀ {R2 : Type} (K2 : AVal → Heap → Option R2), appC σ sz b s xs n K2 = K2 v σ') ∧ Grw σ σ' := by
  unfold appC at h
  split at h
  · split at h
    · rename_i hc; exact ⟨_, _, h, fun K2 => by simp only [appC]; rw [if_pos hc], Grw.refl _⟩
    · rename_i hc
      split at h
      · rename_i hd; exact ⟨_, _, h, fun K2 => by simp only [appC]; rw [if_neg hc, if_pos hd]; rfl, Grw.new rfl⟩
      · cases h
  · rename_i l off len c
    split at h
    · rename_i hg
      split at h
      · rename_i h1
        split at h
        · rename_i h2; exact ⟨_, _, h, fun K2 => by simp only [appC, hg]; rw [if_pos h1, if_pos h2], Grw.refl _⟩
        · rename_i h2
          split at h
          · rename_i h3
            cases c with
            | some k =>
              simp only at h
              split at h
              · rename_i h4
                split at h
                · rename_i h5; exact ⟨_, _, h, fun K2 => by simp only [appC, hg]; rw [if_pos h1, if_neg h2, if_pos h3, if_pos h4, if_pos h5], Grw.set rfl⟩
                · cases h
              · rename_i h4; exact ⟨_, _, h, fun K2 => by simp only [appC, hg]; rw [if_pos h1, if_neg h2, if_pos h3, if_neg h4]; rfl, Grw.new rfl⟩
            | none =>
              simp only at h
              split at h
              · rename_i h4
                split at h
                · rename_i h5; exact ⟨_, _, h, fun K2 => by simp only [appC, hg]; rw [if_pos h1, if_neg h2, if_pos h3, if_pos h4, if_pos h5], Grw.set rfl⟩
                · rename_i h5; exact ⟨_, _, h, fun K2 => by simp only [appC, hg]; rw [if_pos h1, if_neg h2, if_pos h3, if_pos h4, if_neg h5]; rfl, (Grw.kill _).trans (Grw.new rfl)⟩
              · cases h
          · cases h
      · cases h
    · cases h
  · cases h
theorem slS_det {sz : Nat} {v : AVal} {lo : Int} {hi mx : Option Int} {K : AVal → Option Rt} (h : slS σ sz v lo hi mx K = some r) : ∃ z, K z = some r ∧ ∀ {R2 : Type} (K2 : AVal → Option R2), slS σ sz v lo hi mx K2 = K2 z := by
  unfold slS at h
  split at h
  · split at h
    · rename_i hc; exact ⟨_, h, fun K2 => by simp only [slS]; rw [if_pos hc]⟩
    · cases h
  · split at h
    · rename_i hg
      split at h
      · rename_i hc; exact ⟨_, h, fun K2 => by simp only [slS, hg]; rw [if_pos hc]⟩
      · cases h
    · cases h
  · cases h
theorem slB_det {s : ByteArray} {lo : Int} {hi : Option Int} {K : ByteArray → Option Rt} (h : slB s lo hi K = some r) : ∃ z, K z = some r ∧ ∀ {R2 : Type} (K2 : ByteArray → Option R2), slB s lo hi K2 = K2 z := by
  unfold slB at h
  split at h
  · rename_i hc; exact ⟨_, h, fun K2 => by simp only [slB]; rw [if_pos hc]⟩
  · cases h
theorem ixB_det {s : ByteArray} {i : Int} {K : Int → Option Rt} (h : ixB s i K = some r) : ∃ z, K z = some r ∧ ∀ {R2 : Type} (K2 : Int → Option R2), ixB s i K2 = K2 z := by
  unfold ixB at h
  split at h
  · rename_i hc
    split at h
    · rename_i b hb; exact ⟨_, h, fun K2 => by simp only [ixB]; rw [if_pos hc, hb]⟩
    · cases h
  · cases h
theorem tupK_det {v : AVal} {i : Nat} {K : AVal → Option Rt} (h : tupK v i K = some r) : ∃ z, K z = some r ∧ ∀ {R2 : Type} (K2 : AVal → Option R2), tupK v i K2 = K2 z := by
  unfold tupK at h
  split at h
  · split at h
    · rename_i hx; exact ⟨_, h, fun K2 => by simp only [tupK, hx]⟩
    · cases h
  · cases h
theorem allTi_det {X : Option Rt} : ∀ {fs : List (Nat × TypeId)}, allTi C fs X = some r → X = some r ∧ ∀ {R2 : Type} (X2 : Option R2), allTi C fs X2 = X2
  | [], h => ⟨h, fun X2 => rfl⟩
  | f :: fs, h => by
    simp only [allTi] at h
    obtain ⟨ti, h1, e1⟩ := ti_det h
    obtain ⟨h2, e2⟩ := allTi_det h1
    exact ⟨h2, fun X2 => by simp only [allTi]; rw [e1, e2]⟩
theorem doCall_det {s : Option Spec} (hN : ∀ s', s = some s' → ∀ args σ v σ', s'.run args σ = some (v, σ') → Grw σ σ') {args : List AVal} {K : AVal → Heap → Option Rt} (h : doCall s args σ K = some r) :
    ∃ v σ', K v σ' = some r ∧ (∀ {R2 : Type} (K2 : AVal → Heap → Option R2), doCall s args σ K2 = K2 v σ') ∧ Grw σ σ' := by
  cases s with
  | none => cases h
  | some s =>
    rw [doCall_run] at h
    cases hr : s.run args σ with
    | none => rw [hr] at h; cases h
    | some x =>
      rw [hr] at h
      exact ⟨x.1, x.2, h, fun K2 => by rw [doCall_run, hr]; rfl, hN s rfl args σ x.1 x.2 (by rw [hr])⟩

theorem appZ_det {sz bytes : Nat} {z : List AVal} {v : AVal} {n : Int} {K : AVal → Heap → Option Rt} (h : appZ σ sz bytes z v n K = some r) : ∃ u σ', K u σ' = some r ∧ (∀ {R2 : Type} (K2 : AVal → Heap → Option R2), appZ σ sz bytes z v n K2 = K2 u σ') ∧ Grw σ σ' := by
  unfold appZ at h
  split at h
  · split at h
    · rename_i e; exact ⟨_, _, h, fun K2 => by simp only [appZ, if_pos e], Grw.refl _⟩
    · rename_i e
      split at h
      · rename_i e2; exact ⟨_, _, h, fun K2 => by simp only [appZ, if_neg e, if_pos e2]; rfl, Grw.new rfl⟩
      · cases h
  · cases h
theorem keyK_det {tk : TK} {v : AVal} {K : IntKind → Int → Option Rt} (h : keyK tk v K = some r) : ∃ k n, K k n = some r ∧ ∀ {R2 : Type} (K2 : IntKind → Int → Option R2), keyK tk v K2 = K2 k n := by
  unfold keyK at h
  split at h
  · split at h
    · rename_i hk; exact ⟨_, _, h, fun K2 => by simp only [keyK, if_pos hk]⟩
    · cases h
  · cases h
theorem zeroK_det {ti : TI} {K : AVal → Option Rt} (h : zeroK ti K = some r) : ∃ z, K z = some r ∧ ∀ {R2 : Type} (K2 : AVal → Option R2), zeroK ti K2 = K2 z := by
  unfold zeroK at h
  cases hb : isAg ti.tk with
  | true => rw [hb] at h; cases h
  | false =>
    rw [hb] at h
    simp only [cond_false] at h
    split at h
    · rename_i z hz; exact ⟨z, h, fun K2 => by simp only [zeroK, hb, cond_false, hz]⟩
    · cases h
theorem mgetK_det {v : AVal} {k : IntKind} {n : Int} {K : Option AVal → Option Rt} (h : mgetK σ v k n K = some r) : ∃ z, K z = some r ∧ ∀ {R2 : Type} (K2 : Option AVal → Option R2), mgetK σ v k n K2 = K2 z := by
  unfold mgetK at h
  split at h
  · exact ⟨_, h, fun K2 => rfl⟩
  · split at h
    · rename_i hg
      split at h
      · rename_i j hf
        split at h
        · rename_i x hx; exact ⟨_, h, fun K2 => by simp only [mgetK, hg, hf, hx]⟩
        · cases h
      · rename_i hf; exact ⟨_, h, fun K2 => by simp only [mgetK, hg, hf]⟩
      · cases h
    · cases h
  · cases h
theorem mputK_det {v x : AVal} {k : IntKind} {n : Int} {K : Heap → Option Rt} (h : mputK σ v k n x K = some r) : ∃ σ', K σ' = some r ∧ (∀ {R2 : Type} (K2 : Heap → Option R2), mputK σ v k n x K2 = K2 σ') ∧ Grw σ σ' := by
  unfold mputK at h
  split at h
  · split at h
    · rename_i hg
      split at h
      · rename_i j hf; exact ⟨_, h, fun K2 => by simp only [mputK, hg, hf], Grw.set rfl⟩
      · rename_i hf; exact ⟨_, h, fun K2 => by simp only [mputK, hg, hf], Grw.set rfl⟩
      · cases h
    · cases h
  · cases h
theorem mdelK_det {v : AVal} {k : IntKind} {n : Int} {K : Heap → Option Rt} (h : mdelK σ v k n K = some r) : ∃ σ', K σ' = some r ∧ (∀ {R2 : Type} (K2 : Heap → Option R2), mdelK σ v k n K2 = K2 σ') ∧ Grw σ σ' := by
  unfold mdelK at h
  split at h
  · exact ⟨_, h, fun K2 => rfl, Grw.refl _⟩
  · split at h
    · rename_i hg
      split at h
      · rename_i j hf; exact ⟨_, h, fun K2 => by simp only [mdelK, hg, hf], Grw.set rfl⟩
      · rename_i hf; exact ⟨_, h, fun K2 => by simp only [mdelK, hg, hf], Grw.set rfl⟩
      · cases h
    · cases h
  · cases h
theorem asK_val : ∀ (k : Kd) (x : k.ty) (K : k.ty → Option Rt), asK k (k.val x) K = K x
  | .I k, x, K => by simp [asK, Kd.val]
  | .B, x, K => rfl
  | .S, x, K => rfl
  | .V, x, K => rfl
theorem coeK_det {t : TypeId} {v : AVal} {K : AVal → Option Rt} (h : coeK C t v K = some r) : K v = some r ∧ ∀ {R2 : Type} (K2 : AVal → Option R2), coeK C t v K2 = K2 v := by
  unfold coeK at h
  split at h
  · rename_i ti ht
    cases hb : isAg ti.tk with
    | true => rw [hb] at h; exact ⟨h, fun K2 => by simp only [coeK, ht, hb, cond_true]⟩
    | false =>
      rw [hb] at h
      simp only [cond_false] at h
      obtain ⟨x, h1, h2⟩ := asK_spec h
      obtain ⟨y, h3, h4⟩ := asK_det h
      subst h1
      exact ⟨h2, fun K2 => by simp only [coeK, ht, hb, cond_false]; exact asK_val _ _ _⟩
  · rename_i ht; exact ⟨h, fun K2 => by simp only [coeK, ht]⟩
theorem assertK_det {t : TypeId} {v : AVal} {K : Option AVal → Option Rt} (h : assertK t v K = some r) : ∃ z, K z = some r ∧ ∀ {R2 : Type} (K2 : Option AVal → Option R2), assertK t v K2 = K2 z := by
  unfold assertK at h
  split at h
  · split at h
    · rename_i e; exact ⟨_, h, fun K2 => by simp only [assertK, if_pos e]⟩
    · rename_i e; exact ⟨_, h, fun K2 => by simp only [assertK, if_neg e]⟩
  · exact ⟨_, h, fun K2 => rfl⟩
  · cases h
theorem mgetZ_det {v z : AVal} {k : IntKind} {n : Int} {K : AVal → Bool → Option Rt} (h : mgetZ σ v k n z K = some r) : ∃ x b, K x b = some r ∧ ∀ {R2 : Type} (K2 : AVal → Bool → Option R2), mgetZ σ v k n z K2 = K2 x b := by
  unfold mgetZ at h
  obtain ⟨y, h, e⟩ := mgetK_det h
  cases y with
  | some x => exact ⟨x, true, h, fun K2 => by unfold mgetZ; rw [e]⟩
  | none => exact ⟨z, false, h, fun K2 => by unfold mgetZ; rw [e]⟩
theorem assertZ_det {t : TypeId} {v z : AVal} {K : AVal → Bool → Option Rt} (h : assertZ t v z K = some r) : ∃ x b, K x b = some r ∧ ∀ {R2 : Type} (K2 : AVal → Bool → Option R2), assertZ t v z K2 = K2 x b := by
  unfold assertZ at h
  obtain ⟨y, h, e⟩ := assertK_det h
  cases y with
  | some x => exact ⟨x, true, h, fun K2 => by unfold assertZ; rw [e]⟩
  | none => exact ⟨z, false, h, fun K2 => by unfold assertZ; rw [e]⟩
theorem clearK_det {sz : Nat} {z : List AVal} {v : AVal} {K : Heap → Option Rt} (h : clearK σ sz z v K = some r) : ∃ σ', K σ' = some r ∧ (∀ {R2 : Type} (K2 : Heap → Option R2), clearK σ sz z v K2 = K2 σ') ∧ Grw σ σ' := by
  unfold clearK at h
  split at h
  · exact ⟨_, h, fun K2 => rfl, Grw.refl _⟩
  · split at h
    · rename_i e; exact ⟨_, h, fun K2 => by simp only [clearK, if_pos e], Grw.refl _⟩
    · rename_i e
      split at h
      · rename_i hg
        split at h
        · rename_i e2
          obtain ⟨σ', h, e3, hn⟩ := stC_det h
          exact ⟨σ', h, fun K2 => by simp only [clearK, if_neg e, hg, if_pos e2]; rw [e3], hn⟩
        · cases h
      · cases h
  · cases h
theorem capV_det {v : AVal} {K : Int → Option Rt} (h : capV v K = some r) : ∃ z, K z = some r ∧ ∀ {R2 : Type} (K2 : Int → Option R2), capV v K2 = K2 z := by
  unfold capV at h
  split at h
  · exact ⟨_, h, fun K2 => rfl⟩
  · exact ⟨_, h, fun K2 => rfl⟩
  · cases h
theorem mupK_det {t : TypeId} {x i y : Operand} {K : AVal → Heap → Option Rt} (h : mupK C e t x i y σ K = some r) : ∃ v σ', K v σ' = some r ∧ (∀ {R2 : Type} (K2 : AVal → Heap → Option R2), mupK C e t x i y σ K2 = K2 v σ') ∧ Grw σ σ' := by
  unfold mupK at h
  obtain ⟨ti, h, e1⟩ := ti_det h
  split at h
  · rename_i kt et hk
    obtain ⟨ki, h, e2⟩ := ti_det h
    obtain ⟨v, h, e3⟩ := ev_det h
    obtain ⟨u, h, e4⟩ := ev_det h
    obtain ⟨z, h, e5⟩ := ev_det h
    obtain ⟨k, n, h, e6⟩ := keyK_det h
    obtain ⟨σ', h, e7, hn⟩ := mputK_det h
    exact ⟨_, σ', h, fun K2 => by simp only [mupK]; rw [e1]; simp only [hk]; rw [e2, e3, e4, e5, e6, e7], hn⟩
  · cases h

theorem biK_det {b : Builtin} {ts : List TypeId} {args : List Operand} {K : AVal → Heap → Option Rt} (h : biK C e b ts args σ K = some r) :
    ∃ v σ', K v σ' = some r ∧ (∀ {R2 : Type} (K2 : AVal → Heap → Option R2), biK C e b ts args σ K2 = K2 v σ') ∧ Grw σ σ' := by
  unfold biK at h
  split at h
  · obtain ⟨ti, h, e1⟩ := ti_det h
    obtain ⟨v, h, e2⟩ := ev_det h
    split at h
    · rename_i el hk
      obtain ⟨n, h, e3⟩ := lenV_det h
      exact ⟨_, σ, h, fun K2 => by simp only [biK]; rw [e1, e2]; simp only [hk]; rw [e3], Grw.refl _⟩
    · rename_i hk
      obtain ⟨n, h, e3⟩ := asK_det h
      exact ⟨_, σ, h, fun K2 => by simp only [biK]; rw [e1, e2]; simp only [hk]; rw [e3], Grw.refl _⟩
    · rename_i k el hk
      obtain ⟨n, h, e3⟩ := lenM_det h
      exact ⟨_, σ, h, fun K2 => by simp only [biK]; rw [e1, e2]; simp only [hk]; rw [e3], Grw.refl _⟩
    · cases h
  · obtain ⟨ti, h, e1⟩ := ti_det h
    obtain ⟨s, h, e2⟩ := ev_det h
    obtain ⟨v, h, e3⟩ := ev_det h
    split at h
    · rename_i el hk
      obtain ⟨ei, h, e4⟩ := ti_det h
      obtain ⟨ui, h, e5⟩ := ti_det h
      split at h
      · rename_i el2 hk2
        unfold appS at h
        obtain ⟨xs, n, h, e6⟩ := srcK_det h
        obtain ⟨u, σ', h, e7, hn⟩ := appC_det h
        exact ⟨u, σ', h, fun K2 => by simp only [biK]; rw [e1, e2, e3]; simp only [hk]; rw [e4, e5]; simp only [hk2, appS]; rw [e6, e7], hn⟩
      · rename_i hk2
        cases hb : (Nat.beq ei.size 1 && Nat.beq ei.bytes 1) with
        | false => rw [hb] at h; cases h
        | true =>
          rw [hb] at h
          simp only [cond_true] at h
          obtain ⟨x, h, e6⟩ := asK_det h
          unfold appB at h
          split at h
          · rename_i hc
            obtain ⟨u, σ', h, e7, hn⟩ := appC_det h
            exact ⟨u, σ', h, fun K2 => by simp only [biK]; rw [e1, e2, e3]; simp only [hk]; rw [e4, e5]; simp only [hk2, hb, cond_true]; rw [e6]; unfold appB; rw [if_pos hc, e7], hn⟩
          · cases h
      · rename_i kk hk2
        obtain ⟨x, h, e6⟩ := asK_det h
        obtain ⟨u, σ', h, e7, hn⟩ := appZ_det h
        exact ⟨u, σ', h, fun K2 => by simp only [biK]; rw [e1, e2, e3]; simp only [hk]; rw [e4, e5]; simp only [hk2]; rw [e6, e7], hn⟩
      · cases h
    · cases h
  · obtain ⟨ti, h, e1⟩ := ti_det h
    split at h
    · rename_i el hk
      obtain ⟨ei, h, e2⟩ := ti_det h
      obtain ⟨v, h, e3⟩ := ev_det h
      obtain ⟨σ', h, e4, hn⟩ := clearK_det h
      exact ⟨_, σ', h, fun K2 => by simp only [biK]; rw [e1]; simp only [hk]; rw [e2, e3, e4], hn⟩
    · cases h
  · obtain ⟨ti, h, e1⟩ := ti_det h
    split at h
    · rename_i el hk
      obtain ⟨v, h, e2⟩ := ev_det h
      obtain ⟨n, h, e3⟩ := capV_det h
      exact ⟨_, σ, h, fun K2 => by simp only [biK]; rw [e1]; simp only [hk]; rw [e2, e3], Grw.refl _⟩
    · cases h
  · obtain ⟨ti, h, e1⟩ := ti_det h
    split at h
    · rename_i kt et hk
      obtain ⟨ki, h, e2⟩ := ti_det h
      obtain ⟨v, h, e3⟩ := ev_det h
      obtain ⟨u, h, e4⟩ := ev_det h
      obtain ⟨k, n, h, e5⟩ := keyK_det h
      obtain ⟨σ', h, e6, hn⟩ := mdelK_det h
      exact ⟨_, σ', h, fun K2 => by simp only [biK]; rw [e1]; simp only [hk]; rw [e2, e3, e4, e5, e6], hn⟩
    · cases h
  · obtain ⟨v, h, e1⟩ := ev_det h
    obtain ⟨u, h, e2⟩ := ev_det h
    split at h
    · exact ⟨_, σ, h, fun K2 => by simp only [biK]; rw [e1, e2], Grw.refl _⟩
    · cases h
  · obtain ⟨v, h, e1⟩ := ev_det h
    obtain ⟨u, h, e2⟩ := ev_det h
    split at h
    · exact ⟨_, σ, h, fun K2 => by simp only [biK]; rw [e1, e2], Grw.refl _⟩
    · cases h
  · cases h

theorem binK_det {op : BinOp} {ti : TI} {cn : Bool} {x y : AVal} {K : AVal → Option Rt} (h : binK C op ti σ cn x y K = some r) : ∃ z, K z = some r ∧ ∀ {R2 : Type} (K2 : AVal → Option R2), binK C op ti σ cn x y K2 = K2 z := by
  unfold binK at h
  split at h
  · rename_i hk
    split at h
    · split at h
      · obtain ⟨z, h, e1⟩ := shI_det h
        exact ⟨z, h, fun K2 => by simp only [binK, hk]; exact e1 K2⟩
      · obtain ⟨z, h, e1⟩ := shI_det h
        exact ⟨z, h, fun K2 => by simp only [binK, hk]; exact e1 K2⟩
      · rename_i n1 n2
        split at h
        · rename_i hc
          obtain ⟨z, h, e1⟩ := binI_det h
          refine ⟨z, h, fun K2 => ?_⟩
          simp only [binK, hk]
          cases op <;> first | (exact absurd rfl n1) | (exact absurd rfl n2) | (rw [if_pos hc]; exact e1 K2)
        · cases h
    · cases h
  · rename_i hk
    split at h
    · exact ⟨_, h, fun K2 => by simp only [binK, hk]⟩
    · exact ⟨_, h, fun K2 => by simp only [binK, hk]⟩
    · cases h
  · rename_i hk
    split at h
    · exact ⟨_, h, fun K2 => by simp only [binK, hk]⟩
    · exact ⟨_, h, fun K2 => by simp only [binK, hk]⟩
    · cases h
  · rename_i el hk
    obtain ⟨ei, h, e1⟩ := ti_det h
    cases hb : Nat.beq ei.size 0 with
    | true => rw [hb] at h; cases h
    | false =>
      rw [hb] at h
      simp only [cond_false] at h
      split at h
      · obtain ⟨z, h, e2⟩ := eqP_det h
        exact ⟨_, h, fun K2 => by simp only [binK, hk]; rw [e1]; simp only [hb, cond_false]; rw [e2]⟩
      · obtain ⟨z, h, e2⟩ := eqP_det h
        exact ⟨_, h, fun K2 => by simp only [binK, hk]; rw [e1]; simp only [hb, cond_false]; rw [e2]⟩
      · cases h
  · rename_i el hk
    split at h
    · obtain ⟨z, h, e2⟩ := eqS_det h
      exact ⟨_, h, fun K2 => by simp only [binK, hk]; rw [e2]⟩
    · obtain ⟨z, h, e2⟩ := eqS_det h
      exact ⟨_, h, fun K2 => by simp only [binK, hk]; rw [e2]⟩
    · cases h
  · rename_i k el hk
    split at h
    · obtain ⟨z, h, e2⟩ := eqM_det h
      exact ⟨_, h, fun K2 => by simp only [binK, hk]; rw [e2]⟩
    · obtain ⟨z, h, e2⟩ := eqM_det h
      exact ⟨_, h, fun K2 => by simp only [binK, hk]; rw [e2]⟩
    · cases h
  · rename_i hk
    split at h
    · obtain ⟨z, h, e2⟩ := eqF_det h
      exact ⟨_, h, fun K2 => by simp only [binK, hk]; rw [e2]⟩
    · obtain ⟨z, h, e2⟩ := eqF_det h
      exact ⟨_, h, fun K2 => by simp only [binK, hk]; rw [e2]⟩
    · cases h
  · rename_i bm hk
    split at h
    · obtain ⟨z, h, e2⟩ := eqI_det h
      exact ⟨_, h, fun K2 => by simp only [binK, hk]; rw [e2]⟩
    · obtain ⟨z, h, e2⟩ := eqI_det h
      exact ⟨_, h, fun K2 => by simp only [binK, hk]; rw [e2]⟩
    · cases h
  · cases h

/-- One value and one heap: whatever follows. -/
theorem dop_det (hN : ∀ f s, C.calls f = some s → ∀ args σ v σ', s.run args σ = some (v, σ') → Grw σ σ') {o : Oper} {K : AVal → Heap → Option Rt} (h : dop C e o σ K = some r) :
    ∃ v σ', K v σ' = some r ∧ (∀ {R2 : Type} (K2 : AVal → Heap → Option R2), dop C e o σ K2 = K2 v σ') ∧ Grw σ σ' := by
  unfold dop at h
  split at h
  · rename_i x hop
    obtain ⟨v, h, e1⟩ := ev_det h
    exact ⟨v, σ, h, fun K2 => by simp only [dop, hop]; rw [e1], Grw.refl _⟩
  · rename_i x hop
    obtain ⟨v, h, e1⟩ := ev_det h
    exact ⟨v, σ, h, fun K2 => by simp only [dop, hop]; rw [e1], Grw.refl _⟩
  · rename_i c x y hop
    obtain ⟨v, h, e1⟩ := ev_det h
    obtain ⟨b, h, e2⟩ := asK_det h
    cases b with
    | true =>
      obtain ⟨v, h, e3⟩ := ev_det (x := x) (K := fun v => K v σ) h
      exact ⟨v, σ, h, fun K2 => by simp only [dop, hop]; rw [e1, e2]; exact e3 _, Grw.refl _⟩
    | false =>
      obtain ⟨v, h, e3⟩ := ev_det (x := y) (K := fun v => K v σ) h
      exact ⟨v, σ, h, fun K2 => by simp only [dop, hop]; rw [e1, e2]; exact e3 _, Grw.refl _⟩
  · rename_i t hop
    obtain ⟨ti, h, e1⟩ := ti_det h
    exact ⟨_, _, h, fun K2 => by simp only [dop, hop]; rw [e1]; rfl, Grw.new rfl⟩
  · rename_i t x hop
    obtain ⟨ti, h, e1⟩ := ti_det h
    obtain ⟨v, h, e2⟩ := ev_det h
    obtain ⟨vs, h, e3⟩ := cellsK_det h
    exact ⟨_, _, h, fun K2 => by simp only [dop, hop]; rw [e1, e2, e3]; rfl, Grw.new rfl⟩
  · rename_i t ps hop
    obtain ⟨ti, h, e1⟩ := ti_det h
    split at h
    · rename_i fs hk
      obtain ⟨h, e2⟩ := allTi_det h
      obtain ⟨cs, h, e3⟩ := fillK_det h
      exact ⟨_, σ, h, fun K2 => by simp only [dop, hop]; rw [e1]; simp only [hk]; rw [e2, e3], Grw.refl _⟩
    · rename_i n el hk
      obtain ⟨ei, h, e2⟩ := ti_det h
      obtain ⟨cs, h, e3⟩ := fillK_det h
      exact ⟨_, σ, h, fun K2 => by simp only [dop, hop]; rw [e1]; simp only [hk]; rw [e2, e3], Grw.refl _⟩
    · cases h
  · rename_i t len ps hop
    obtain ⟨ti, h, e1⟩ := ti_det h
    split at h
    · rename_i el hk
      obtain ⟨ei, h, e2⟩ := ti_det h
      cases hb : Nat.ble (len * ei.size) 16777216 with
      | false => rw [hb] at h; cases h
      | true =>
        rw [hb] at h
        simp only [cond_true] at h
        obtain ⟨cs, h, e3⟩ := fillK_det h
        exact ⟨_, _, h, fun K2 => by simp only [dop, hop]; rw [e1]; simp only [hk]; rw [e2]; simp only [hb, cond_true]; rw [e3]; rfl, Grw.new rfl⟩
    · cases h
  · rename_i t x hop
    obtain ⟨ti, h, e1⟩ := ti_det h
    obtain ⟨v, h, e2⟩ := ev_det h
    obtain ⟨u, h, e3⟩ := loadK_det h
    exact ⟨u, σ, h, fun K2 => by simp only [dop, hop]; rw [e1, e2, e3], Grw.refl _⟩
  · rename_i t x y hop
    obtain ⟨ti, h, e1⟩ := ti_det h
    obtain ⟨v, h, e2⟩ := ev_det h
    obtain ⟨u, h, e3⟩ := ev_det h
    obtain ⟨vs, h, e4⟩ := cellsK_det h
    obtain ⟨σ', h, e5, hn⟩ := stC_det h
    exact ⟨_, σ', h, fun K2 => by simp only [dop, hop]; rw [e1, e2, e3, e4, e5], hn⟩
  · rename_i x hop
    obtain ⟨v, h, e1⟩ := ev_det h
    obtain ⟨h, e2⟩ := nilck_det h
    exact ⟨v, σ, h, fun K2 => by simp only [dop, hop]; rw [e1, e2], Grw.refl _⟩
  · rename_i op t x y ty hop
    obtain ⟨ti, h, e1⟩ := ti_det h
    obtain ⟨v, h, e2⟩ := ev_det h
    obtain ⟨u, h, e3⟩ := ev_det h
    obtain ⟨z, h, e4⟩ := binK_det h
    exact ⟨z, σ, h, fun K2 => by simp only [dop, hop]; rw [e1, e2, e3, e4], Grw.refl _⟩
  · rename_i op t x hop
    obtain ⟨v, h, e1⟩ := ev_det h
    split at h
    · exact ⟨_, σ, h, fun K2 => by simp only [dop, hop]; rw [e1], Grw.refl _⟩
    · exact ⟨_, σ, h, fun K2 => by simp only [dop, hop]; rw [e1], Grw.refl _⟩
    · cases h
  · rename_i s t x hop
    obtain ⟨ti0, h, e0⟩ := ti_det h
    obtain ⟨ti, h, e1⟩ := ti_det h
    obtain ⟨v, h, e2⟩ := ev_det h
    split at h
    · rename_i hk
      exact ⟨_, σ, h, fun K2 => by simp only [dop, hop]; rw [e0, e1, e2]; simp only [hk], Grw.refl _⟩
    · cases h
  · rename_i t x hop
    obtain ⟨ti, h, e1⟩ := ti_det h
    obtain ⟨v, h, e2⟩ := ev_det h
    split at h
    · cases h
    · rename_i hk
      refine ⟨_, σ, h, fun K2 => ?_, Grw.refl _⟩
      simp only [dop, hop]
      rw [e1, e2]
      split
      · rename_i ms hk2; exact absurd hk2 (hk ms)
      · rfl
  · rename_i f fi ca hop
    obtain ⟨vs, h, e1⟩ := evs_det h
    obtain ⟨us, h, e2⟩ := evs_det h
    exact ⟨_, σ, h, fun K2 => by simp only [dop, hop]; rw [e1, e2], Grw.refl _⟩
  · rename_i t x y hop
    obtain ⟨ti, h, e1⟩ := ti_det h
    split at h
    · rename_i el hk
      obtain ⟨ei, h, e2⟩ := ti_det h
      obtain ⟨v, h, e3⟩ := ev_det h
      obtain ⟨u, h, e4⟩ := ev_det h
      obtain ⟨n1, h, e5⟩ := intK_det h
      obtain ⟨n2, h, e6⟩ := intK_det h
      obtain ⟨z, σ', h, e7, hn⟩ := mkS_det h
      exact ⟨z, σ', h, fun K2 => by simp only [dop, hop]; rw [e1]; simp only [hk]; rw [e2, e3, e4, e5, e6, e7], hn⟩
    · cases h
  · rename_i t x lo hi mx hop
    obtain ⟨ti, h, e1⟩ := ti_det h
    obtain ⟨v, h, e2⟩ := ev_det h
    obtain ⟨n1, h, e3⟩ := optK_det h
    obtain ⟨n2, h, e4⟩ := optK_det h
    obtain ⟨n3, h, e5⟩ := optK_det h
    split at h
    · rename_i el hk
      obtain ⟨ei, h, e6⟩ := ti_det h
      obtain ⟨z, h, e7⟩ := slS_det h
      exact ⟨z, σ, h, fun K2 => by simp only [dop, hop]; rw [e1, e2, e3, e4, e5]; simp only [hk]; rw [e6, e7], Grw.refl _⟩
    · rename_i hk
      split at h
      · obtain ⟨s, h, e6⟩ := asK_det h
        obtain ⟨z, h, e7⟩ := slB_det h
        exact ⟨_, σ, h, fun K2 => by simp only [dop, hop]; rw [e1, e2, e3, e4, e5]; simp only [hk]; rw [e6, e7], Grw.refl _⟩
      · cases h
    · cases h
  · rename_i t x f hop
    obtain ⟨ti, h, e1⟩ := ti_det h
    split at h
    · rename_i fs hk
      split at h
      · rename_i off u hf
        obtain ⟨ui, h, e2⟩ := ti_det h
        cases hb : Nat.beq ui.size 0 with
        | true => rw [hb] at h; cases h
        | false =>
          rw [hb] at h
          simp only [cond_false] at h
          obtain ⟨v, h, e3⟩ := ev_det h
          obtain ⟨z, h, e4⟩ := fld_det h
          exact ⟨z, σ, h, fun K2 => by simp only [dop, hop]; rw [e1]; simp only [hk, hf]; rw [e2]; simp only [hb, cond_false]; rw [e3, e4], Grw.refl _⟩
      · cases h
    · cases h
  · rename_i t x f hop
    obtain ⟨ti, h, e1⟩ := ti_det h
    split at h
    · rename_i fs hk
      split at h
      · rename_i off u hf
        obtain ⟨ui, h, e2⟩ := ti_det h
        obtain ⟨v, h, e3⟩ := ev_det h
        obtain ⟨z, h, e4⟩ := partK_det h
        exact ⟨z, σ, h, fun K2 => by simp only [dop, hop]; rw [e1]; simp only [hk, hf]; rw [e2, e3, e4], Grw.refl _⟩
      · cases h
    · cases h
  · rename_i t x y hop
    obtain ⟨ti, h, e1⟩ := ti_det h
    obtain ⟨v, h, e2⟩ := ev_det h
    obtain ⟨u, h, e3⟩ := ev_det h
    obtain ⟨n, h, e4⟩ := intK_det h
    split at h
    · rename_i el hk
      obtain ⟨ei, h, e5⟩ := ti_det h
      obtain ⟨z, h, e6⟩ := ixA_det h
      exact ⟨z, σ, h, fun K2 => by simp only [dop, hop]; rw [e1, e2, e3, e4]; simp only [hk]; rw [e5, e6], Grw.refl _⟩
    · rename_i ln el hk
      obtain ⟨ei, h, e5⟩ := ti_det h
      obtain ⟨z, h, e6⟩ := ixP_det h
      exact ⟨z, σ, h, fun K2 => by simp only [dop, hop]; rw [e1, e2, e3, e4]; simp only [hk]; rw [e5, e6], Grw.refl _⟩
    · cases h
  · rename_i t x y hop
    obtain ⟨ti, h, e1⟩ := ti_det h
    obtain ⟨v, h, e2⟩ := ev_det h
    obtain ⟨u, h, e3⟩ := ev_det h
    obtain ⟨n, h, e4⟩ := intK_det h
    split at h
    · rename_i hk
      obtain ⟨s, h, e5⟩ := asK_det h
      obtain ⟨z, h, e6⟩ := ixB_det h
      exact ⟨_, σ, h, fun K2 => by simp only [dop, hop]; rw [e1, e2, e3, e4]; simp only [hk]; rw [e5, e6], Grw.refl _⟩
    · cases h
  · rename_i x i hop
    obtain ⟨v, h, e1⟩ := ev_det h
    obtain ⟨z, h, e2⟩ := tupK_det h
    exact ⟨z, σ, h, fun K2 => by simp only [dop, hop]; rw [e1, e2], Grw.refl _⟩
  · rename_i c hop
    split at h
    · rename_i b hc
      obtain ⟨v, σ', h, e1, hn⟩ := biK_det h
      exact ⟨v, σ', h, fun K2 => by simp only [dop, hop, hc]; rw [e1], hn⟩
    · rename_i f hc
      obtain ⟨v, h, e1⟩ := ev_det h
      obtain ⟨args, h, e2⟩ := evs_det h
      split at h
      · rename_i id fi ca
        obtain ⟨z, σ', h, e3, hn⟩ := doCall_det (fun s hs => hN _ s hs) h
        have key : K z σ' = some r ∧ ∀ {R2 : Type} (K2 : AVal → Heap → Option R2), (match f with | .func _ => K2 | _ => fun v σ => coeK C o.type v fun v => K2 v σ) z σ' = K2 z σ' := by
          cases f with
          | func g => exact ⟨h, fun K2 => rfl⟩
          | tmp t => obtain ⟨h1, h2⟩ := coeK_det (K := fun v => K v σ') h; exact ⟨h1, fun K2 => h2 (fun v => K2 v σ')⟩
          | const t => obtain ⟨h1, h2⟩ := coeK_det (K := fun v => K v σ') h; exact ⟨h1, fun K2 => h2 (fun v => K2 v σ')⟩
          | global t => obtain ⟨h1, h2⟩ := coeK_det (K := fun v => K v σ') h; exact ⟨h1, fun K2 => h2 (fun v => K2 v σ')⟩
        exact ⟨z, σ', key.1, fun K2 => by simp only [dop, hop, hc]; rw [e1, e2]; simp only []; rw [e3]; exact key.2 K2, hn⟩
      · cases h
    · cases h
  · rename_i t hop
    obtain ⟨ti, h, e1⟩ := ti_det h
    split at h
    · rename_i kt et hk
      exact ⟨_, _, h, fun K2 => by simp only [dop, hop]; rw [e1]; simp only [hk], Grw.new rfl⟩
    · cases h
  · rename_i t x i ok hop
    obtain ⟨ti, h, e1⟩ := ti_det h
    split at h
    · rename_i kt et hk
      obtain ⟨ki, h, e2⟩ := ti_det h
      obtain ⟨ei, h, e3⟩ := ti_det h
      obtain ⟨v, h, e4⟩ := ev_det h
      obtain ⟨u, h, e5⟩ := ev_det h
      obtain ⟨k, n, h, e6⟩ := keyK_det h
      obtain ⟨z, h, e7⟩ := zeroK_det h
      obtain ⟨x, b, h, e8⟩ := mgetZ_det h
      obtain ⟨y, h, e9⟩ := asK_det h
      cases ok with
      | true => exact ⟨_, σ, h, fun K2 => by simp only [dop, hop]; rw [e1]; simp only [hk]; rw [e2, e3, e4, e5, e6, e7, e8, e9]; rfl, Grw.refl _⟩
      | false => exact ⟨_, σ, h, fun K2 => by simp only [dop, hop]; rw [e1]; simp only [hk]; rw [e2, e3, e4, e5, e6, e7, e8, e9]; rfl, Grw.refl _⟩
    · cases h
  · rename_i x u t ok hop
    obtain ⟨ti, h, e1⟩ := ti_det h
    obtain ⟨v, h, e2⟩ := ev_det h
    cases hif : isIf ti.tk with
    | true => rw [hif] at h; cases h
    | false =>
      rw [hif] at h
      cases ok with
      | true =>
        obtain ⟨z, h, e3⟩ := zeroK_det h
        obtain ⟨x, b, h, e4⟩ := assertZ_det h
        obtain ⟨y, h, e5⟩ := asK_det h
        exact ⟨_, σ, h, fun K2 => by simp only [dop, hop]; rw [e1, e2]; simp only [hif, cond_false, cond_true]; rw [e3, e4, e5], Grw.refl _⟩
      | false =>
        simp only [cond_false] at h
        obtain ⟨z, h, e3⟩ := assertK_det h
        cases z with
        | some z =>
          obtain ⟨y, h, e5⟩ := asK_det h
          exact ⟨_, σ, h, fun K2 => by simp only [dop, hop]; rw [e1, e2]; simp only [hif, cond_false]; rw [e3]; simp only []; rw [e5], Grw.refl _⟩
        | none => cases h
  · rename_i t x i y hop
    obtain ⟨v, σ', h, e1, hn⟩ := mupK_det h
    exact ⟨v, σ', h, fun K2 => by simp only [dop, hop]; rw [e1], hn⟩
  · rename_i t x i y hop
    obtain ⟨v, σ', h, e1, hn⟩ := mupK_det h
    exact ⟨v, σ', h, fun K2 => by simp only [dop, hop]; rw [e1], hn⟩
  · cases h

theorem dops_next (hN : ∀ f s, C.calls f = some s → ∀ args σ v σ', s.run args σ = some (v, σ') → Grw σ σ') {all : List Oper} : ∀ (os : List Oper) (e : Env) (σ : Heap) (K : Env → Heap → Option Rt), dops C all os e σ K = some r → ∃ e' σ', K e' σ' = some r ∧ Grw σ σ'
  | [], e, σ, K, h => ⟨e, σ, h, Grw.refl _⟩
  | o :: os, e, σ, K, h => by
    have here : ∀ e1, dop C e1 o σ (fun v σ => dops C all os (e1.put o.dst v) σ K) = some r → ∃ e' σ', K e' σ' = some r ∧ Grw σ σ' := fun e1 h => by
      obtain ⟨v, σ1, h1, _, hn⟩ := dop_det hN h
      obtain ⟨e', σ', h2, hn2⟩ := dops_next hN os _ _ K h1
      exact ⟨e', σ', h2, hn.trans hn2⟩
    have skip : ∀ e1, dops C all os e1 σ K = some r → ∃ e' σ', K e' σ' = some r ∧ Grw σ σ' := fun e1 h => dops_next hN os e1 σ K h
    simp only [dops] at h
    cases hb : dstOk C.n o.dst with
    | false => rw [hb] at h; cases h
    | true =>
      rw [hb] at h
      simp only [cond_true] at h
      split at h
      · exact here _ h
      · rename_i j want hg
        split at h
        · split at h
          · split at h
            · rename_i c hc
              cases c <;> cases want <;> first | exact here _ h | exact skip _ h
            · exact skip _ h
            · cases h
          · cases h
        · cases h

theorem elim_next (js : List (Ex × Lv)) : ∀ (y : JT js) (e0 : Env) (σ : Heap) (K : Ex → Env → Heap → Option Rt), elimJ js y e0 σ K = some r → ∃ ex e', K ex e' σ = some r := by
  induction js with
  | nil => intro y; exact nomatch y
  | cons x l ih =>
    cases l with
    | nil => intro y e0 σ K h; exact ⟨_, _, h⟩
    | cons z l =>
      intro y e0 σ K h
      cases y with
      | inl y => exact ⟨_, _, h⟩
      | inr y => exact ih y e0 σ K h

end
end Go.Proofs.YtgneblbblihaoaaDoor.A
