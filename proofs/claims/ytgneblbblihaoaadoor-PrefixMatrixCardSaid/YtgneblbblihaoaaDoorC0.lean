/- Regions whose order is open: what turns the heap; whole regions. -/
import Derived.Test.YtgneblbblihaoaaDoorB9
set_option linter.all false
namespace Go.Proofs.YtgneblbblihaoaaDoor.A
open Go Go.RowKit

theorem pureOps_mem {calls : FuncId → Option Spec} : ∀ (os : List Oper), pureOps calls os = true → ∀ o ∈ os, pureOp calls o = true
  | [], _, o, h => by simp at h
  | x :: os, hp, o, h => by
    simp only [pureOps] at hp
    cases hx : pureOp calls x with
    | false => rw [hx] at hp; cases hp
    | true =>
      rw [hx] at hp
      rcases List.mem_cons.1 h with e | e
      · subst e; exact hx
      · exact pureOps_mem os hp o e

section
variable {C : Cx} {ops : Array Oper} {E : Nat → Env} {H Z : Nat → Heap} {W : Nat → Bool} {V : Nat → AVal} {B : Nat → Prop} {w0 : Base} {m0 : Nat → Option Pl} {a0 : Act}

theorem Sit.noisyStep (hs : Sit C ops E H Z W V B w0 m0 a0) {listed : Array Bool} {p : Nat} {mc : Nat → Option Pl} {G : Heap} {w : World} {a : Act} (hh : HInv C ops Z W B w0 m0 listed p mc G w) (ha : AInv C ops Z V a0 listed mc a) {j : Nat} {o : Oper} (ho : ops[j]? = some o) (hu : ¬ Ld listed j)
    (hl : ∀ e ∈ o.after, Region.binds .any e = true → Ld listed e.on) (hw : W j = true) (hn : noisy C o = true) {K : Act → World → Prop} {Q : Exit → Act → World → Prop}
    (hK : ∀ p' mc' G' a' w', HInv C ops Z W B w0 m0 (listed.setIfInBounds j true) p' mc' G' w' → AInv C ops Z V a0 (listed.setIfInBounds j true) mc' a' → K a' w') : o.wp C.P a w K Q := by
  have hi := (Array.getElem?_eq_some_iff.1 ho).1
  have his : j < listed.size := by rw [hh.size]; exact hi
  have up : ∀ {k}, Ld listed k → Ld (listed.setIfInBounds j true) k := fun h => (ld_set his).2 (.inl h)
  have down : ∀ {k}, Ld (listed.setIfInBounds j true) k → k ≠ j → Ld listed k := fun h hne => ((ld_set his).1 h).resolve_right hne
  have now : Ld (listed.setIfInBounds j true) j := (ld_set his).2 (.inr rfl)
  have hE := hs.envR hh.size hh.closed hh.sub ha ho hu hl
  have hNo : No C ops W j := ⟨o, ho, hn, hw⟩
  have hpm : w0.pm = false := pmf hs.pm fun h => by
    have := pureOps_mem _ h o (by have := Array.mem_of_getElem? ho; simpa using this)
    simp [noisy, this] at hn
  have hpj : p ≤ j := by
    rcases Nat.lt_or_ge j p with h | h
    · exact absurd ((hh.nois j hNo).2 h) hu
    · exact h
  have hmid : ∀ k, p ≤ k → k < j → ¬ No C ops W k := fun k h1 h2 h3 => by
    obtain ⟨ok, hok, hnk, hwk⟩ := id h3
    have hpk : pureOp C.calls ok = false := by
      cases h : pureOp C.calls ok with
      | false => rfl
      | true => simp [noisy, h] at hnk
    have := hs.reg.chain j o ho hn k ok h2 hok hpk listed hh.closed hl
    have := (hh.nois k h3).1 this
    omega
  have hals : ∀ k, k < j → Al C ops W k → Ld listed k := fun k h1 h2 => by
    obtain ⟨ok, hok, hpk, _⟩ := h2
    exact hs.reg.chain j o ho hn k ok h1 hok hpk listed hh.closed hl
  have hjn : j ≤ ops.size := Nat.le_of_lt hi
  have hpj' := hs.mono hpj hjn
  have hj1 := hs.mono (i := j) (j := j + 1) (by omega) (by omega)
  have hjN := hs.mono (i := j + 1) (j := ops.size) (by omega) (Nat.le_refl _)
  -- the heap that the operation finds
  have hZG : ∀ l x, (Z j).get l = some x → G.get l = some x ∧ l < (Z j).next ∧ ∃ q, mc l = some q ∧ ObjR (cut (Z j).next mc) q x w := fun l x h => by
    rcases hs.between j hpj hjn hmid l x h with h | ⟨k, h1, h2, h3, h4, h5⟩
    · obtain ⟨q, h6, h7⟩ := hh.zobj l x h
      exact ⟨hh.gz l x h, by have := hh.zlt l x h; omega, q, h6, h7.mono (cut_mono hpj' (Sub.refl _)) rfl⟩
    · subst h4
      have hlk := hals k h2 h3
      obtain ⟨q, h6, h7⟩ := hh.pobj k x h1 hlk h3 h5
      exact ⟨by rw [hh.gp k h1 hlk h3]; exact h5, hs.al_lt h3 h2 hjn, q, h6, h7.mono (cut_mono (hs.mono (by omega) hjn) (Sub.refl _)) rfl⟩
  let Bj : Nat → Prop := fun k => k < w.heap.size ∧ ∀ l x q, (Z j).get l = some x → x.rw = true → mc l = some q → q.blk ≠ k
  have hRj : R Bj ⟨w, (Z j).next, cut (Z j).next mc, false⟩ (cut (Z j).next mc) (Z j) w := by
    refine ⟨fun l x h => ?_, fun l q h => ⟨cut_dom h, (hh.r.dom l q (cut_sub l q h)).2⟩, fun l l' x x' q q' hne h h' hq hq' hex => ?_, fun _ l x q h hrw hq hb => ?_, Keeps.refl _ _, fun k hk => hk.1, Nat.le_refl _, fun _ _ => rfl⟩
    · obtain ⟨_, h1, q, h2, h3⟩ := hZG l x h
      exact ⟨q, by rw [cut_lt h1]; exact h2, h3⟩
    · exact hh.r.excl l l' x x' q q' hne (hZG l x h).1 (hZG l' x' h').1 (cut_sub _ _ hq) (cut_sub _ _ hq') hex
    · exact hb.2 l x q h hrw (cut_sub _ _ hq) rfl
  have hdop := ((hs.stp ho).noisy hw hn).1
  have hd : dop C ((E j).only (opTmps o)) o (Z j) (fun v σ => chk (v = V j ∧ σ = Z (j + 1)) (some ())) = some () := by rw [hdop Unit _, chk_pos ⟨rfl, rfl⟩]
  refine dop_sound hs.hC hRj (fun (h : false = true) => nomatch h) hE hd fun cv w' hpost => ?_
  obtain ⟨v', σ', m', k1, k2, k3, k4⟩ := hpost
  obtain ⟨⟨e1, e2⟩, _⟩ := chk_spec k1
  subst e1 e2
  have hblk : ∀ k, Bj k → w'.heap[k]? = w.heap[k]? := k3.below.block
  have hsz : w.heap.size ≤ w'.heap.size := k3.below.size
  have hold : ∀ l, l < (Z j).next → m' l = mc l := fun l h => by rw [← cut_lt (m := mc) h]; exact k3.old l h
  generalize hmc' : (fun l => if l < (Z (j + 1)).next then m' l else mc l) = mc'
  have hlo : ∀ l, l < (Z (j + 1)).next → mc' l = m' l := fun l h => by rw [← hmc']; exact if_pos h
  have hhi : ∀ l, (Z (j + 1)).next ≤ l → mc' l = mc l := fun l h => by rw [← hmc']; exact if_neg (by omega)
  have hkeep : ∀ l q, mc l = some q → l < (Z j).next ∨ (Z (j + 1)).next ≤ l := fun l q h => by
    rcases hh.dom l q h with h1 | ⟨k, h1, h2, h3, h4⟩
    · exact .inl (by omega)
    · rcases Nat.lt_trichotomy k j with h5 | h5 | h5
      · exact .inl (by have := hs.al_lt h3 h5 hjn; omega)
      · subst h5; exact absurd hNo h3.no
      · exact .inr (by have := hs.mono (i := j + 1) (j := k) (by omega) (Nat.le_of_lt h3.lt); omega)
  have S : Sub mc mc' := fun l q h => by
    rcases hkeep l q h with h1 | h1
    · rw [hlo l (by omega), hold l h1]; exact h
    · rw [hhi l h1]; exact h
  have S' : Sub m' (cut (Z (j + 1)).next mc') := fun l q h => by
    have h1 := (k3.dom l q h).1
    rw [cut_lt h1, hlo l h1]; exact h
  -- made objects whose turn is yet to come
  have hpk : ∀ l x, G.get l = some x → (Z (j + 1)).next ≤ l → ∃ k, j + 1 ≤ k ∧ Ld listed k ∧ Al C ops W k ∧ l = (Z k).next ∧ (Z (k + 1)).get (Z k).next = some x := fun l x h h1 => by
    rcases hh.gd l x h with ⟨h2, _⟩ | ⟨k, h2, h3, h4, h5⟩
    · omega
    · refine ⟨k, ?_, h3, h4, h5, ?_⟩
      · rcases Nat.lt_trichotomy k j with h6 | h6 | h6
        · have := hs.al_lt h4 h6 hjn; omega
        · subst h6; exact absurd hNo h4.no
        · omega
      · rw [← hh.gp k h2 h3 h4, ← h5]; exact h
  have hrwG : ∀ l x, G.get l = some x → (Z (j + 1)).next ≤ l → x.rw = true := fun l x h h1 => by
    obtain ⟨k, _, _, h4, _, h6⟩ := hpk l x h h1
    obtain ⟨ok, hok, _⟩ := id h4
    obtain ⟨ob, hrw, hZk, _⟩ := hs.al hok h4
    rw [hZk] at h6
    have : x = ob := by simpa [Heap.new] using h6.symm
    rw [this]; exact hrw
  have ex_of : ∀ x : AObj, x.rw = true → x.ex = true := fun x h => by
    cases x with
    | cells md sz cs => cases md <;> simp_all [AObj.rw, AObj.ex, Md.isRw, Md.ex]
    | map es => rfl
  have hapart : ∀ l x q, G.get l = some x → (Z (j + 1)).next ≤ l → mc l = some q → Bj q.blk := fun l x q h h1 hq =>
    ⟨(hh.r.dom l q hq).2, fun l' x' q' h' hrw' hq' => hh.r.excl l' l x' x q' q (fun e => by have := (hZG l' x' h').2.1; omega) (hZG l' x' h').1 h hq' hq (ex_of x' hrw')⟩
  generalize hG' : (⟨G.next, fun l => if l < (Z (j + 1)).next then (Z (j + 1)).get l else G.get l⟩ : Heap) = G'
  have gn' : G'.next = G.next := by rw [← hG']
  have glo : ∀ l, l < (Z (j + 1)).next → G'.get l = (Z (j + 1)).get l := fun l h => by rw [← hG']; exact if_pos h
  have ghi : ∀ l, (Z (j + 1)).next ≤ l → G'.get l = G.get l := fun l h => by rw [← hG']; exact if_neg (by omega)
  have hfr : ∀ l x, (Z (j + 1)).get l = some x → x.rw = false → (Z j).get l = some x := (hs.stp ho).next.frame
  have hR : R B w0 mc' G' w' := by
    refine ⟨fun l x h => ?_, fun l q h => ?_, fun l l' x x' q q' hne h h' hq hq' hex => ?_, fun _ l x q h hrw hq => ?_, hh.r.below.trans ⟨k3.below.os, k3.below.tape, k3.below.output, hsz, fun k hk => hblk k ⟨hh.r.base k hk, fun l x q h hrw hq e => hh.r.own hpm l x q (hZG l x h).1 hrw hq (e ▸ hk)⟩⟩, fun k hk => Nat.lt_of_lt_of_le (hh.r.base k hk) hsz, by rw [gn']; exact hh.r.oldn, fun l hl2 => ?_⟩
    · rcases Nat.lt_or_ge l (Z (j + 1)).next with h1 | h1
      · rw [glo l h1] at h
        obtain ⟨q, h2, h3⟩ := k3.obj l x h
        exact ⟨q, by rw [hlo l h1]; exact h2, h3.mono (S'.trans cut_sub) rfl⟩
      · rw [ghi l h1] at h
        obtain ⟨q, h2, h3⟩ := hh.r.obj l x h
        exact ⟨q, S _ _ h2, h3.mono S (hblk _ (hapart l x q h h1 h2))⟩
    · rcases Nat.lt_or_ge l (Z (j + 1)).next with h1 | h1
      · rw [hlo l h1] at h
        exact ⟨by rw [gn', hh.gn]; omega, (k3.dom l q h).2⟩
      · rw [hhi l h1] at h
        exact ⟨by rw [gn']; exact (hh.r.dom l q h).1, Nat.lt_of_lt_of_le (hh.r.dom l q h).2 hsz⟩
    · have mixed : ∀ l l' x x' q q', l < (Z (j + 1)).next → (Z (j + 1)).next ≤ l' → G'.get l = some x → G'.get l' = some x' → mc' l = some q → mc' l' = some q' → q.blk ≠ q'.blk := fun l l' x x' q q' h1 h2 h h' hq hq' => by
        rw [glo l h1] at h
        rw [ghi l' h2] at h'
        rw [hlo l h1] at hq
        rw [hhi l' h2] at hq'
        have hb := hapart l' x' q' h' h2 hq'
        cases hrw : x.rw with
        | true => exact fun e => (k3.own rfl l x q h hrw hq) (e ▸ hb)
        | false =>
          have hzj := hfr l x h hrw
          obtain ⟨g1, g2, q2, g3, _⟩ := hZG l x hzj
          rw [hold l g2] at hq
          exact (hh.r.excl l' l x' x q' q (by omega) h' g1 hq' hq (ex_of x' (hrwG l' x' h' h2))).symm
      rcases Nat.lt_or_ge l (Z (j + 1)).next with h1 | h1 <;> rcases Nat.lt_or_ge l' (Z (j + 1)).next with h2 | h2
      · rw [glo l h1] at h; rw [glo l' h2] at h'; rw [hlo l h1] at hq; rw [hlo l' h2] at hq'
        exact k3.excl l l' x x' q q' hne h h' hq hq' hex
      · exact mixed l l' x x' q q' h1 h2 h h' hq hq'
      · exact (mixed l' l x' x q' q h2 h1 h' h hq' hq).symm
      · rw [ghi l h1] at h; rw [ghi l' h2] at h'; rw [hhi l h1] at hq; rw [hhi l' h2] at hq'
        exact hh.r.excl l l' x x' q q' hne h h' hq hq' hex
    · rcases Nat.lt_or_ge l (Z (j + 1)).next with h1 | h1
      · rw [glo l h1] at h; rw [hlo l h1] at hq
        exact fun hb => k3.own rfl l x q h hrw hq ⟨hh.r.base _ hb, fun l2 x2 q2 g1 g2 g3 e => hh.r.own hpm l2 x2 q2 (hZG l2 x2 g1).1 g2 g3 (e ▸ hb)⟩
      · rw [ghi l h1] at h; rw [hhi l h1] at hq
        exact hh.r.own hpm l x q h hrw hq
    · have h1 : l < (Z j).next := by have := hs.w0n; have := hs.mono (Nat.zero_le j) hjn; omega
      rw [hlo l (by omega), hold l h1]; exact hh.r.old l hl2
  refine hK (j + 1) mc' G' _ w' ⟨by simp [hh.size], closed_set hh.size hh.closed ho hl, by omega, fun k hk => ?_, .inr ⟨j, rfl, hNo⟩, hh.sub.trans S, fun l q h => ?_, hR, by rw [gn', hh.gn], fun l x h => ?_, fun l x h => k3.loc_lt h, fun k h1 h2 h3 => ?_, fun l x h => ?_, fun l x h => ?_, fun k x h1 h2 h3 h4 => ?_⟩ (hs.put hh.size ha ho S (VR.mono S' _ _ k4))
  · constructor
    · intro h
      by_cases e : k = j
      · omega
      · have := (hh.nois k hk).1 (down h e); omega
    · intro h
      by_cases e : k = j
      · subst e; exact now
      · exact up ((hh.nois k hk).2 (by
          rcases Nat.lt_or_ge k p with h1 | h1
          · exact h1
          · exact absurd hk (hmid k h1 (by omega))))
  · rcases Nat.lt_or_ge l (Z (j + 1)).next with h1 | h1
    · exact .inl h1
    · rw [hhi l h1] at h
      rcases hh.dom l q h with h2 | ⟨k, h2, h3, h4, h5⟩
      · omega
      · refine .inr ⟨k, ?_, up h3, h4, h5⟩
        rcases Nat.lt_trichotomy k j with h6 | h6 | h6
        · have := hs.al_lt h4 h6 hjn; omega
        · subst h6; exact absurd hNo h4.no
        · omega
  · rw [glo l (k3.loc_lt h)]; exact h
  · have hk1 := hs.mono (i := j + 1) (j := k) h1 (Nat.le_of_lt h3.lt)
    rw [ghi _ hk1]
    exact hh.gp k (by omega) (down h2 (by omega)) h3
  · rcases Nat.lt_or_ge l (Z (j + 1)).next with h1 | h1
    · rw [glo l h1] at h; exact .inl ⟨h1, h⟩
    · rw [ghi l h1] at h
      obtain ⟨k, g1, g2, g3, g4, _⟩ := hpk l x h h1
      exact .inr ⟨k, g1, up g2, g3, g4⟩
  · obtain ⟨q, h2, h3⟩ := k3.obj l x h
    exact ⟨q, by rw [hlo l (k3.loc_lt h)]; exact h2, h3.mono S' rfl⟩
  · have hk1 := hs.mono (i := j + 1) (j := k) h1 (Nat.le_of_lt h3.lt)
    have hlk := down h2 (by omega)
    obtain ⟨q, h5, h6⟩ := hh.pobj k x (by omega) hlk h3 h4
    have hg : G.get (Z k).next = some x := by rw [hh.gp k (by omega) hlk h3]; exact h4
    exact ⟨q, S _ _ h5, h6.mono (cut_mono (Nat.le_refl _) S) (hblk _ (hapart _ x q hg hk1 h5))⟩
end

end Go.Proofs.YtgneblbblihaoaaDoor.A
