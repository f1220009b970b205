/- Regions whose order is open: step by step. -/
import Derived.Test.YtgneblbblihaoaaDoorB8
set_option linter.all false
namespace Go.Proofs.YtgneblbblihaoaaDoor.A
open Go Go.RowKit

theorem least {P : Nat → Prop} : ∀ (n : Nat), P n → ∃ k, k ≤ n ∧ P k ∧ ∀ j, j < k → ¬ P j := by
  intro n
  induction n using Nat.strongRecOn with
  | ind n ih =>
    intro h
    by_cases hx : ∃ j, j < n ∧ P j
    · obtain ⟨j, h1, h2⟩ := hx
      obtain ⟨k, h3, h4, h5⟩ := ih j h1 h2
      exact ⟨k, by omega, h4, h5⟩
    · exact ⟨n, Nat.le_refl _, h, fun j hj hp => hx ⟨j, hj, hp⟩⟩

theorem R.all_pure {B : Nat → Prop} {w0 : Base} {m : Nat → Option Pl} {σ : Heap} {w : World} (h : R B w0 m σ w) : R (fun k => k < w.heap.size) ⟨w, σ.next, m, true⟩ m σ w :=
  ⟨h.obj, h.dom, h.excl, (fun (hpm : true = false) => nomatch hpm), Keeps.refl _ _, fun k hk => hk, Nat.le_refl _, fun _ _ => rfl⟩

theorem R.bare {m : Nat → Option Pl} {w : World} (n : Nat) (hd : ∀ l q, m l = some q → l < n ∧ q.blk < w.heap.size) : R (fun k => k < w.heap.size) ⟨w, n, m, false⟩ m ⟨n, fun _ => none⟩ w := by
  refine ⟨fun l o h => ?_, hd, fun l l' o o' q q' _ h => ?_, fun _ l o q h => ?_, Keeps.refl _ _, fun k hk => hk, Nat.le_refl _, fun _ _ => rfl⟩ <;> cases h

section
variable {C : Cx} {ops : Array Oper} {E : Nat → Env} {H Z : Nat → Heap} {W : Nat → Bool} {V : Nat → AVal} {B : Nat → Prop} {w0 : Base} {m0 : Nat → Option Pl} {a0 : Act}

/-- What leaves all as it is has come. -/
theorem Sit.same (hs : Sit C ops E H Z W V B w0 m0 a0) {listed : Array Bool} {p : Nat} {mc : Nat → Option Pl} {G : Heap} {w w' : World} (hh : HInv C ops Z W B w0 m0 listed p mc G w) {i : Nat} {o : Oper} (ho : ops[i]? = some o)
    (hl : ∀ e ∈ o.after, Region.binds .any e = true → Ld listed e.on) (hno : ¬ No C ops W i) (hal : ¬ Al C ops W i) (hr : R B w0 mc G w') (hb : ∀ k, k < w.heap.size → w'.heap[k]? = w.heap[k]?) :
    HInv C ops Z W B w0 m0 (listed.setIfInBounds i true) p mc G w' := by
  have hi : i < listed.size := by rw [hh.size]; exact (Array.getElem?_eq_some_iff.1 ho).1
  have up : ∀ {k}, Ld listed k → Ld (listed.setIfInBounds i true) k := fun h => (ld_set hi).2 (.inl h)
  have down : ∀ {k}, Ld (listed.setIfInBounds i true) k → k ≠ i → Ld listed k := fun h hne => ((ld_set hi).1 h).resolve_right hne
  refine ⟨by simp [hh.size], closed_set hh.size hh.closed ho hl, hh.pn, fun j hj => ?_, hh.pos, hh.sub, fun l pl h => ?_, hr, hh.gn, hh.gz, hh.zlt, fun k h1 h2 h3 => ?_, fun l x h => ?_, fun l x h => ?_, fun k x h1 h2 h3 h4 => ?_⟩
  · have hne : j ≠ i := fun e => hno (e ▸ hj)
    rw [← hh.nois j hj]
    exact ⟨fun h => down h hne, up⟩
  · exact (hh.dom l pl h).imp id fun ⟨k, h1, h2, h3⟩ => ⟨k, h1, up h2, h3⟩
  · exact hh.gp k h1 (down h2 fun e => hal (e ▸ h3)) h3
  · exact (hh.gd l x h).imp id fun ⟨k, h1, h2, h3⟩ => ⟨k, h1, up h2, h3⟩
  · obtain ⟨pl, h1, h2⟩ := hh.zobj l x h
    exact ⟨pl, h1, h2.mono (Sub.refl _) (hb _ (hh.r.dom l pl h1).2)⟩
  · obtain ⟨pl, h5, h6⟩ := hh.pobj k x h1 (down h2 fun e => hal (e ▸ h3)) h3 h4
    exact ⟨pl, h5, h6.mono (Sub.refl _) (hb _ (hh.r.dom _ pl h5).2)⟩

/-- What leaves the heap alone has its value now, whatever has come already. -/
theorem Sit.runs (hs : Sit C ops E H Z W V B w0 m0 a0) {listed : Array Bool} {p : Nat} {mc : Nat → Option Pl} {G : Heap} {w : World} (hh : HInv C ops Z W B w0 m0 listed p mc G w) {i : Nat} {o : Oper} (ho : ops[i]? = some o) (hu : ¬ Ld listed i)
    (hl : ∀ e ∈ o.after, Region.binds .any e = true → Ld listed e.on) (hw : W i = true) (hp : pureOp C.calls o = true) : dop C ((E i).only (opTmps o)) o (Z p) (fun v _ => some v) = some (V i) := by
  have hi := (Array.getElem?_eq_some_iff.1 ho).1
  have hst : Runs C ((E i).only (opTmps o)) o (H i) (V i) := ((hs.stp ho).pure hw hp).1
  have of : ∀ σ, Runs C ((E i).only (opTmps o)) o σ (V i) → dop C ((E i).only (opTmps o)) o σ (fun v _ => some v) = some (V i) := fun σ ⟨_, h⟩ => h _ _
  cases hrd : readsOp C o with
  | false => exact dop_blind hp hrd _ (of _ hst)
  | true =>
    have hHp := hs.hp hh.pos
    have hos : ops.toList[i]? = some o := by simpa using ho
    rcases Nat.lt_or_ge i p with hip | hip
    · rcases hh.pos with h0 | ⟨j, hj, hNo⟩
      · omega
      · obtain ⟨oj, hoj, hnj, hwj⟩ := id hNo
        have hij : i < j := by
          rcases Nat.lt_or_ge i j with h | h
          · exact h
          · have : i = j := by omega
            subst this; rw [ho] at hoj; cases hoj; simp [noisy, hp] at hnj
        have := hs.run.fwd i j o oj hij hos (by simpa using hoj) hw hwj hp hrd hnj (by
          rw [Nat.zero_add, Nat.zero_add]
          cases hah : ahead (masks ops.toList []) i j with
          | false => rfl
          | true =>
            have hlj : Ld listed j := (hh.nois j hNo).2 (by omega)
            exact absurd (ahead_ld hs.reg.back hh.closed j i oj hoj hah (fun e he hb => hh.closed j oj hoj hlj e he hb)) hu)
        rw [hj]; exact of _ this
    · by_cases hex : ∃ k, p ≤ k ∧ k < i ∧ No C ops W k
      · obtain ⟨k0, h0⟩ := hex
        obtain ⟨k, _, ⟨h1, h2, h3⟩, h4⟩ := least (P := fun k => p ≤ k ∧ k < i ∧ No C ops W k) k0 h0
        have hc := hs.constH k h1 (by omega) (fun q q1 q2 q3 => h4 q q2 ⟨q1, by omega, q3⟩)
        obtain ⟨ok, hok, hnk, hwk⟩ := id h3
        have := hs.run.bwd i k o ok h2 hos (by simpa using hok) hw hwk hp hrd hnk (by
          rw [Nat.zero_add, Nat.zero_add]
          cases hah : ahead (masks ops.toList []) k i with
          | false => rfl
          | true =>
            have := ahead_ld hs.reg.back hh.closed i k o ho hah hl
            have := (hh.nois k h3).1 this
            omega)
        rw [hc, hHp] at this
        exact of _ this
      · have hc := hs.constH i hip (by omega) (fun q q1 q2 q3 => hex ⟨q, q1, q2, q3⟩)
        rw [hc, hHp] at hst
        exact of _ hst

theorem Sit.pureStep (hs : Sit C ops E H Z W V B w0 m0 a0) {listed : Array Bool} {p : Nat} {mc : Nat → Option Pl} {G : Heap} {w : World} {a : Act} (hh : HInv C ops Z W B w0 m0 listed p mc G w) (ha : AInv C ops Z V a0 listed mc a) {i : Nat} {o : Oper} (ho : ops[i]? = some o) (hu : ¬ Ld listed i)
    (hl : ∀ e ∈ o.after, Region.binds .any e = true → Ld listed e.on) (hw : W i = true) (hp : pureOp C.calls o = true) {K : Act → World → Prop} {Q : Exit → Act → World → Prop}
    (hK : ∀ p' mc' G' a' w', HInv C ops Z W B w0 m0 (listed.setIfInBounds i true) p' mc' G' w' → AInv C ops Z V a0 (listed.setIfInBounds i true) mc' a' → K a' w') : o.wp C.P a w K Q := by
  have hi := (Array.getElem?_eq_some_iff.1 ho).1
  have hE := hs.envR hh.size hh.closed hh.sub ha ho hu hl
  have h2 : dop C ((E i).only (opTmps o)) o G (fun v _ => some v) = some (V i) := dop_mono hs.hC hp hh.gz (V i) (hs.runs hh ho hu hl hw hp)
  obtain ⟨v, hv1, hv2⟩ := dop_ext hs.hC hp h2
  have hv1' : v = V i := Option.some.inj hv1
  have h3 : dop C ((E i).only (opTmps o)) o G (fun v σ => chk (v = V i ∧ σ = G) (some ())) = some () := by
    rw [hv2 G (Ext.refl G), chk_pos ⟨hv1', rfl⟩]
  refine dop_sound hs.hC hh.r.all_pure (fun _ => hp) ((hs.envR hh.size hh.closed hh.sub ha ho hu hl).mono cut_sub) h3 fun cv w' hpost => ?_
  obtain ⟨v', σ', m', k1, k2, k3, k4⟩ := hpost
  obtain ⟨⟨e1, e2⟩, _⟩ := chk_spec k1
  subst e1 e2
  have hm : m' = mc := by
    funext l
    rcases Nat.lt_or_ge l σ'.next with h | h
    · exact k3.old l h
    · cases h1 : m' l with
      | some q => have := (k3.dom l q h1).1; omega
      | none =>
        cases h4 : mc l with
        | some q => have := (hh.r.dom l q h4).1; omega
        | none => rfl
  subst hm
  have hblk : ∀ k, k < w.heap.size → w'.heap[k]? = w.heap[k]? := k3.below.block
  have hR : R B w0 m' σ' w' := ⟨k3.obj, k3.dom, k3.excl, hh.r.own, hh.r.below.trans ⟨k3.below.os, k3.below.tape, k3.below.output, k3.below.size, fun k hk => hblk k (hh.r.base k hk)⟩,
    fun k hk => Nat.lt_of_lt_of_le (hh.r.base k hk) k3.below.size, hh.r.oldn, hh.r.old⟩
  have hno : ¬ No C ops W i := fun ⟨o', h1, h4, _⟩ => by rw [ho] at h1; cases h1; simp [noisy, hp] at h4
  have hal : ¬ Al C ops W i := fun ⟨o', h1, h4, _⟩ => by rw [ho] at h1; cases h1; rw [hp] at h4; cases h4
  refine hK p m' σ' _ w' (hs.same hh ho hl hno hal hR hblk) (hs.put hh.size ha ho (Sub.refl _) ?_)
  exact VR.cut _ _ (hs.cl i hi) k4

theorem Sit.allocStep (hs : Sit C ops E H Z W V B w0 m0 a0) {listed : Array Bool} {p : Nat} {mc : Nat → Option Pl} {G : Heap} {w : World} {a : Act} (hh : HInv C ops Z W B w0 m0 listed p mc G w) (ha : AInv C ops Z V a0 listed mc a) {i : Nat} {o : Oper} (ho : ops[i]? = some o) (hu : ¬ Ld listed i)
    (hl : ∀ e ∈ o.after, Region.binds .any e = true → Ld listed e.on) (hA : Al C ops W i) {K : Act → World → Prop} {Q : Exit → Act → World → Prop}
    (hK : ∀ p' mc' G' a' w', HInv C ops Z W B w0 m0 (listed.setIfInBounds i true) p' mc' G' w' → AInv C ops Z V a0 (listed.setIfInBounds i true) mc' a' → K a' w') : o.wp C.P a w K Q := by
  have hi := (Array.getElem?_eq_some_iff.1 ho).1
  have his : i < listed.size := by rw [hh.size]; exact hi
  have up : ∀ {k}, Ld listed k → Ld (listed.setIfInBounds i true) k := fun h => (ld_set his).2 (.inl h)
  have down : ∀ {k}, Ld (listed.setIfInBounds i true) k → k ≠ i → Ld listed k := fun h hne => ((ld_set his).1 h).resolve_right hne
  have now : Ld (listed.setIfInBounds i true) i := (ld_set his).2 (.inr rfl)
  have hE := hs.envR hh.size hh.closed hh.sub ha ho hu hl
  obtain ⟨ob, hrw, hZ1, hdop⟩ := hs.al ho hA
  have hno : ¬ No C ops W i := hA.no
  have hip : p ≤ i := by
    rcases hh.pos with h0 | ⟨j, hj, hNo⟩
    · omega
    · rcases Nat.lt_or_ge i p with h | h
      · exfalso
        obtain ⟨oj, hoj, hnj, hwj⟩ := id hNo
        have hne : i ≠ j := fun e => hno (e ▸ hNo)
        have hlj : Ld listed j := (hh.nois j hNo).2 (by omega)
        obtain ⟨o', ho', hp, _⟩ := id hA
        rw [ho] at ho'; cases ho'
        exact hu (hs.reg.chain j oj hoj hnj i o (by omega) ho hp listed hh.closed (fun e he hb => hh.closed j oj hoj hlj e he hb))
      · exact h
  have hnone : mc (Z i).next = none := by
    cases hm : mc (Z i).next with
    | none => rfl
    | some q =>
      exfalso
      rcases hh.dom _ _ hm with h | ⟨k, h1, h2, h3, h4⟩
      · have := hs.mono hip (Nat.le_of_lt hi); omega
      · have := hs.al_inj hA h3 h4
        subst this; exact hu h2
  have hnN : (Z i).next < (Z ops.size).next := hs.al_lt hA hi (Nat.le_refl _)
  have hRτ := R.bare (m := cut (Z i).next mc) (w := w) (Z i).next (fun l q h => ⟨cut_dom h, (hh.r.dom l q (cut_sub l q h)).2⟩)
  generalize hτ : (⟨(Z i).next, fun _ => none⟩ : Heap) = τ at hRτ
  have hτn : τ.next = (Z i).next := by rw [← hτ]
  have hd : dop C ((E i).only (opTmps o)) o τ (fun v σ => chk (v = V i ∧ σ = τ.new ob) (some ())) = some () := by rw [hdop τ hτn, chk_pos ⟨rfl, rfl⟩]
  refine dop_sound hs.hC hRτ (fun (h : false = true) => nomatch h) hE hd fun cv w' hpost => ?_
  obtain ⟨v', σ', m', k1, k2, k3, k4⟩ := hpost
  obtain ⟨⟨e1, e2⟩, _⟩ := chk_spec k1
  subst e1 e2
  have hblk : ∀ k, k < w.heap.size → w'.heap[k]? = w.heap[k]? := k3.below.block
  have hget : (τ.new ob).get (Z i).next = some ob := by simp [Heap.new, hτn]
  obtain ⟨pl, hpl, hobj⟩ := k3.obj (Z i).next ob hget
  have hnew : w.heap.size ≤ pl.blk := by
    have h : ¬ pl.blk < w.heap.size := k3.own rfl (Z i).next ob pl hget hrw hpl
    omega
  have S : Sub mc (mset mc (Z i).next pl) := Sub.mset hnone pl
  have hself : mset mc (Z i).next pl (Z i).next = some pl := by simp [mset]
  have hoth : ∀ l, l ≠ (Z i).next → mset mc (Z i).next pl l = mc l := fun l h => by simp [mset, h]
  have S' : Sub m' (cut (Z (i + 1)).next (mset mc (Z i).next pl)) := fun l q h => by
    have h1 : l < (Z i).next + 1 := by have := (k3.dom l q h).1; simpa [Heap.new, hτn] using this
    rw [cut_lt (by rw [hs.al_next hA]; exact h1)]
    by_cases e : l = (Z i).next
    · subst e; rw [hpl] at h; cases h; exact hself
    · have h2 : l < (Z i).next := by omega
      have h3 : m' l = cut (Z i).next mc l := k3.old l h2
      rw [hoth l e, ← cut_lt (m := mc) h2, ← h3]; exact h
  have hsz : w.heap.size ≤ w'.heap.size := k3.below.size
  have hR : R B w0 (mset mc (Z i).next pl) (G.set (Z i).next ob) w' := by
    refine R.upd (b := pl.blk) (l := (Z i).next) (o := ob) (p := pl) hh.r ⟨k3.below.os, k3.below.tape, k3.below.output, hsz, fun k _ hk => hblk k hk⟩ (fun hb => by have := hh.r.base _ hb; omega) S
      (fun k hk => hoth k (by have := hs.w0n; have := hs.mono (Nat.zero_le i) (Nat.le_of_lt hi); omega)) hself rfl (k3.dom _ _ hpl).2 (fun k q hk => ?_) (Nat.le_refl _) (by simp only [Heap.set, hh.gn]; exact hnN) (fun k x hk hx => ?_) (by simp [Heap.set]) (hobj.mono (S'.trans cut_sub) rfl)
    · by_cases e : k = (Z i).next
      · subst e; rw [hself] at hk; cases hk; exact .inr ⟨rfl, rfl⟩
      · rw [hoth k e] at hk; exact .inl hk
    · simp only [Heap.set, if_neg hk] at hx
      exact ⟨hx, fun q hq => by have := (hh.r.dom k q hq).2; omega⟩
  have hGs : ∀ l, l ≠ (Z i).next → (G.set (Z i).next ob).get l = G.get l := fun l h => by simp [Heap.set, h]
  refine hK p _ _ _ w' ⟨by simp [hh.size], closed_set hh.size hh.closed ho hl, hh.pn, fun j hj => ?_, hh.pos, hh.sub.trans S, fun l q h => ?_, hR, hh.gn, fun l x h => ?_, hh.zlt, fun k h1 h2 h3 => ?_, fun l x h => ?_, fun l x h => ?_, fun k x h1 h2 h3 h4 => ?_⟩ (hs.put hh.size ha ho S (VR.mono S' _ _ k4))
  · have hne : j ≠ i := fun e => hno (e ▸ hj)
    rw [← hh.nois j hj]
    exact ⟨fun h => down h hne, up⟩
  · by_cases e : l = (Z i).next
    · exact .inr ⟨i, hip, now, hA, e⟩
    · rw [hoth l e] at h
      exact (hh.dom l q h).imp id fun ⟨k, h1, h2, h3⟩ => ⟨k, h1, up h2, h3⟩
  · have h1 := hh.gz l x h
    obtain ⟨q, h2, _⟩ := hh.r.obj l x h1
    rw [hGs l (fun e => by rw [e, hnone] at h2; cases h2)]; exact h1
  · by_cases e : k = i
    · subst e; rw [hZ1]; simp [Heap.set, Heap.new]
    · rw [hGs _ (fun h => e (hs.al_inj h3 hA h))]; exact hh.gp k h1 (down h2 e) h3
  · by_cases e : l = (Z i).next
    · exact .inr ⟨i, hip, now, hA, e⟩
    · rw [hGs l e] at h
      exact (hh.gd l x h).imp id fun ⟨k, h1, h2, h3⟩ => ⟨k, h1, up h2, h3⟩
  · obtain ⟨q, h1, h2⟩ := hh.zobj l x h
    exact ⟨q, S _ _ h1, h2.mono (cut_mono (Nat.le_refl _) S) (hblk _ (hh.r.dom l q h1).2)⟩
  · by_cases e : k = i
    · subst e
      rw [hZ1] at h4
      have : x = ob := by simpa [Heap.new] using h4.symm
      subst this
      exact ⟨pl, hself, hobj.mono S' rfl⟩
    · obtain ⟨q, h5, h6⟩ := hh.pobj k x h1 (down h2 e) h3 h4
      exact ⟨q, S _ _ h5, h6.mono (cut_mono (Nat.le_refl _) S) (hblk _ (hh.r.dom _ q h5).2)⟩
end

end Go.Proofs.YtgneblbblihaoaaDoor.A
