/- Regions, whatever their order: sound. -/
import Derived.Test.YtgneblbblihaoaaDoorC0
set_option linter.all false
namespace Go.Proofs.YtgneblbblihaoaaDoor.A
open Go Go.RowKit

def cnt (listed : Array Bool) : Nat → Nat
  | 0 => 0
  | n + 1 => cnt listed n + (if listed.getD n false = true then 0 else 1)

theorem cnt_same {l l' : Array Bool} : ∀ (n : Nat), (∀ j, j < n → l.getD j false = l'.getD j false) → cnt l n = cnt l' n
  | 0, _ => rfl
  | n + 1, h => by simp only [cnt]; rw [cnt_same n fun j hj => h j (by omega), h n (by omega)]

theorem cnt_set {listed : Array Bool} {i : Nat} (his : i < listed.size) (hu : ¬ Ld listed i) : ∀ (n : Nat), i < n → cnt (listed.setIfInBounds i true) n + 1 = cnt listed n
  | 0, h => by omega
  | n + 1, h => by
    simp only [cnt]
    by_cases e : i = n
    · subst e
      rw [cnt_same (l' := listed) i fun j hj => getD_set_ne false (by omega)]
      have h1 : (listed.setIfInBounds i true).getD i false = true := (ld_set his).2 (.inr rfl)
      have h2 : listed.getD i false = false := by
        cases hx : listed.getD i false with
        | false => rfl
        | true => exact absurd hx hu
      rw [h1, h2]; simp
    · rw [getD_set_ne false e]
      have := cnt_set his hu n (by omega)
      omega

theorem cnt_zero {listed : Array Bool} : ∀ (n : Nat), cnt listed n = 0 → ∀ j, j < n → Ld listed j
  | 0, _, j, hj => by omega
  | n + 1, h, j, hj => by
    simp only [cnt] at h
    by_cases e : j = n
    · subst e
      cases hx : listed.getD j false with
      | true => exact hx
      | false => rw [hx] at h; simp at h
    · exact cnt_zero n (by omega) j (by omega)

theorem unlisted {listed : Array Bool} {i : Nat} (h : listed.getD i true = false) : ¬ Ld listed i := fun h2 => by
  unfold Ld at h2
  simp only [Array.getD_eq_getD_getElem?] at h h2
  cases hx : listed[i]? with
  | none => rw [hx] at h; simp at h
  | some b => rw [hx] at h h2; simp at h h2; rw [h] at h2; cases h2

section
variable {C : Cx} {ops : Array Oper} {E : Nat → Env} {H Z : Nat → Heap} {W : Nat → Bool} {V : Nat → AVal} {B : Nat → Prop} {w0 : Base} {m0 : Nat → Option Pl} {a0 : Act}

theorem Sit.step (hs : Sit C ops E H Z W V B w0 m0 a0) {listed : Array Bool} {p : Nat} {mc : Nat → Option Pl} {G : Heap} {w : World} {a : Act} (hh : HInv C ops Z W B w0 m0 listed p mc G w) (ha : AInv C ops Z V a0 listed mc a) {i : Nat} (hi : i ∈ Region.ready .any ops listed)
    {K : Act → World → Prop} {Q : Exit → Act → World → Prop}
    (hK : ∀ p' mc' G' a' w', HInv C ops Z W B w0 m0 (listed.setIfInBounds i true) p' mc' G' w' → AInv C ops Z V a0 (listed.setIfInBounds i true) mc' a' → K a' w') : wpOp C.P ops Q i K a w := by
  obtain ⟨hun, o, ho, hl⟩ := mem_ready.1 hi
  have hu := unlisted hun
  unfold wpOp
  simp only [ho]
  rw [hs.wanted hh.size hh.closed hh.sub ha ho hu hl]
  cases hw : W i with
  | false =>
    rw [if_neg (by decide)]
    obtain ⟨hV, _, _⟩ := (hs.stp ho).off hw
    refine hK p mc G _ w (hs.same hh ho hl (fun ⟨_, _, _, h⟩ => by rw [hw] at h; cases h) (fun ⟨_, _, _, _, h⟩ => by rw [hw] at h; cases h) hh.r fun _ _ => rfl) (hs.put hh.size ha ho (Sub.refl mc) ?_)
    rw [hV]; simp only [VR]; exact ⟨[], rfl, by simp [VRs]⟩
  | true =>
    rw [if_pos rfl]
    refine .inl ?_
    cases hp : pureOp C.calls o with
    | true => exact hs.pureStep hh ha ho hu hl hw hp hK
    | false =>
      cases hal : allocOp o with
      | true => exact hs.allocStep hh ha ho hu hl ⟨o, ho, hp, hal, hw⟩ hK
      | false => exact hs.noisyStep hh ha ho hu hl hw (by simp [noisy, hp, hal]) hK

theorem Sit.done (hs : Sit C ops E H Z W V B w0 m0 a0) {listed : Array Bool} {p : Nat} {mc : Nat → Option Pl} {G : Heap} {w : World} {a : Act} (hh : HInv C ops Z W B w0 m0 listed p mc G w) (ha : AInv C ops Z V a0 listed mc a) (hall : ∀ j, j < ops.size → Ld listed j) :
    After C B w0 m0 a0 (dsts ops.toList []) (E ops.size) (Z ops.size) mc a w := by
  have hno : ∀ k, p ≤ k → k < ops.size → ¬ No C ops W k := fun k h1 h2 h3 => by
    have := (hh.nois k h3).1 (hall k h2); omega
  have hZG : ∀ l x, (Z ops.size).get l = some x → G.get l = some x := fun l x h => by
    rcases hs.between ops.size hh.pn (Nat.le_refl _) hno l x h with h | ⟨k, h1, h2, h3, h4, h5⟩
    · exact hh.gz l x h
    · subst h4; rw [hh.gp k h1 (hall k h2) h3]; exact h5
  refine ⟨hh.sub, ⟨fun l x h => hh.r.obj l x (hZG l x h), fun l q h => ?_, fun l l' x x' q q' hne h h' => hh.r.excl l l' x x' q q' hne (hZG l x h) (hZG l' x' h'), fun hpm l x q h => hh.r.own hpm l x q (hZG l x h), hh.r.below, hh.r.base, ?_, hh.r.old⟩, ⟨fun t u h => ?_, fun g hg => ?_, ha.asz⟩, ha.defers, fun t ht => ha.old t fun i o hi _ hd => ht ((mem_dsts _ _ _).2 (.inl ⟨o, by have := Array.mem_of_getElem? hi; simpa using this, hd⟩))⟩
  · have := hh.r.dom l q h; rw [hh.gn] at this; exact this
  · exact Nat.le_trans hs.w0n (hs.mono (Nat.zero_le _) (Nat.le_refl _))
  · rcases hs.envGet ops.size (Nat.le_refl _) t u h with ⟨j, oj, h1, h2, h3, h4⟩ | ⟨h1, h2⟩
    · subst h4
      exact VR.mono cut_sub _ _ (ha.vals j oj t h2 (hall j h1) h3)
    · rw [ha.old t fun i o hi _ => h1 i o (Array.getElem?_eq_some_iff.1 hi).1 hi]
      exact VR.mono hh.sub _ _ (hs.env0 t u h2)
  · obtain ⟨q, h1, h2⟩ := hs.glob g hg
    exact ⟨q, hh.sub _ _ h1, h2⟩

theorem Sit.all (hs : Sit C ops E H Z W V B w0 m0 a0) {Q : Exit → Act → World → Prop} (hQ : ∀ mc a w, After C B w0 m0 a0 (dsts ops.toList []) (E ops.size) (Z ops.size) mc a w → Q .normal a w) :
    ∀ (fuel : Nat) (listed : Array Bool) (p : Nat) (mc : Nat → Option Pl) (G : Heap) (a : Act) (w : World), cnt listed ops.size ≤ fuel → HInv C ops Z W B w0 m0 listed p mc G w → AInv C ops Z V a0 listed mc a → wpAny C.P .any ops Q fuel listed a w := by
  intro fuel
  induction fuel with
  | zero =>
    intro listed p mc G a w hc hh ha
    have hall := cnt_zero (listed := listed) ops.size (by omega)
    refine ⟨?_, hQ mc a w (hs.done hh ha hall)⟩
    cases hr : Region.ready .any ops listed with
    | nil => rfl
    | cons x xs =>
      have hx : x ∈ Region.ready .any ops listed := by rw [hr]; exact List.mem_cons_self
      obtain ⟨hun, o, ho, _⟩ := mem_ready.1 hx
      exact absurd (hall x (Array.getElem?_eq_some_iff.1 ho).1) (unlisted hun)
  | succ fuel ih =>
    intro listed p mc G a w hc hh ha
    refine ⟨fun hr => hQ mc a w (hs.done hh ha ?_), fun i hi => ?_⟩
    · intro j
      induction j using Nat.strongRecOn with
      | ind j ihj =>
        intro hj
        cases hx : listed.getD j false with
        | true => exact hx
        | false =>
          exfalso
          obtain ⟨o, ho⟩ := Sit.op (ops := ops) j hj
          have : j ∈ Region.ready .any ops listed := mem_ready.2 ⟨by
            have hlt : j < listed.size := by rw [hh.size]; exact hj
            simp only [Array.getD_eq_getD_getElem?] at hx ⊢
            rw [Array.getElem?_eq_getElem hlt] at hx ⊢
            simpa using hx, o, ho, fun e he hb => ihj e.on (hs.reg.back j o ho e he hb) (by have := hs.reg.back j o ho e he hb; omega)⟩
          rw [hr] at this; simp at this
    · obtain ⟨hun, o, ho, _⟩ := mem_ready.1 hi
      have hi' := (Array.getElem?_eq_some_iff.1 ho).1
      have := cnt_set (by rw [hh.size]; exact hi') (unlisted hun) ops.size hi'
      exact hs.step hh ha hi fun p' mc' G' a' w' hh' ha' => ih _ p' mc' G' a' w' (by omega) hh' ha'
end

/-- An operation that is surely carried out comes to something. -/
theorem wp_ex {P : Program} {o : Oper} {a : Act} {w : World} {φ : Act → World → Prop} (h : o.wp P a w φ fun _ _ _ => False) : ∃ a' w', φ a' w' := by
  unfold Oper.wp at h
  generalize (execOp a.eval o).run P w = r at h
  cases r with
  | ok n w' =>
    cases n with
    | value v => exact ⟨_, _, h⟩
    | skip => exact ⟨_, _, h⟩
    | defer d => exact ⟨_, _, h⟩
    | enter f args =>
      obtain ⟨e, w'', fr, h1, _⟩ := h []
      cases e with
      | returned v => exact ⟨_, _, h1⟩
      | panicked c => exact h1.elim
      | outgrown => obtain ⟨_, _, h2⟩ := h1; exact h2.elim
    | row row args =>
      obtain ⟨v, w'', h1, _⟩ := h (Frame.ofRow P row args .normal) []
      exact ⟨_, _, h1⟩
    | _ => exact h.elim
  | halt x w' =>
    cases x <;> exact h.elim

/-- The values of a run in order: their names were given by then. -/
theorem run_cl {C : Cx} (hC : ∀ f s, C.calls f = some s → SpecOk C.P C.NG f s) {ops : Array Oper} {ms : List Nat} {E : Nat → Env} {H Z : Nat → Heap} {W : Nat → Bool} {V : Nat → AVal} (hr : RunOk C ops.toList ms ops.toList 0 [] [] E H Z W V) (h0 : H 0 = Z 0)
    {B : Nat → Prop} {w0 : Base} {m : Nat → Option Pl} {w : World} {a : Act} (hR : R B w0 m (Z 0) w) (hE : EnvR C m (E 0) a) (hpm : w0.pm = true → pureOps C.calls ops.toList = true) :
    ∀ (i : Nat), i ≤ ops.size → (∃ m' w' a', R B w0 m' (Z i) w' ∧ EnvR C m' (E i) a' ∧ Ext (H i) (Z i)) ∧ ∀ k, k < i → Lt (Z (k + 1)).next (V k) := by
  intro i
  induction i with
  | zero => intro _; exact ⟨⟨m, w, a, hR, hE, by rw [h0]; exact Ext.refl _⟩, fun k hk => by omega⟩
  | succ i ih =>
    intro hi
    obtain ⟨⟨m', w', a', g1, g2, g3⟩, g4⟩ := ih (by omega)
    obtain ⟨o, ho⟩ := Sit.op (ops := ops) i (by omega)
    have hst := hr.step i o (by simpa using ho)
    have hpo : w0.pm = true → pureOp C.calls o = true := fun h => pureOps_mem _ (hpm h) o (by have := Array.mem_of_getElem? ho; simpa using this)
    have hEo : EnvR C m' ((E i).only (opTmps o)) a' := ⟨fun t u h => g2.tmp t u (Env.get_only _ _ _ _ h).2, g2.glob, g2.size⟩
    have fin : ∀ (m2 : Nat → Option Pl) (w2 : World) (cv : Value), Sub m' m2 → R B w0 m2 (Z (i + 1)) w2 → VR m2 (V i) cv → Ext (H (i + 1)) (Z (i + 1)) →
        (∃ m' w' a', R B w0 m' (Z (i + 1)) w' ∧ EnvR C m' (E (i + 1)) a' ∧ Ext (H (i + 1)) (Z (i + 1))) ∧ ∀ k, k < i + 1 → Lt (Z (k + 1)).next (V k) := fun m2 w2 cv S hR2 hv hx => by
      have hput := (g2.mono S).put (d := o.dst) hv hst.dst
      refine ⟨⟨m2, w2, a'.put o.dst cv, hR2, ⟨fun t u h => hput.tmp t u ?_, hput.glob, hput.size⟩, hx⟩, fun k hk => ?_⟩
      · rw [Env.get_put, ← hst.env t]; exact h
      · by_cases e : k = i
        · subst e; exact VR.lt (fun l p h => (hR2.dom l p h).1) _ _ hv
        · exact g4 k (by omega)
    have go : ∀ σ1 : Heap, dop C ((E i).only (opTmps o)) o (Z i) (fun v σ => chk (v = V i ∧ σ = σ1) (some ())) = some () → σ1 = Z (i + 1) → Ext (H (i + 1)) (Z (i + 1)) →
        (∃ m' w' a', R B w0 m' (Z (i + 1)) w' ∧ EnvR C m' (E (i + 1)) a' ∧ Ext (H (i + 1)) (Z (i + 1))) ∧ ∀ k, k < i + 1 → Lt (Z (k + 1)).next (V k) := fun σ1 hd hσ hx => by
      have hwp : o.wp C.P a' w' (fun _ _ => ∃ cv w2, OpPost B w0 m' (fun v σ => chk (v = V i ∧ σ = σ1) (some ())) () cv w2) fun _ _ _ => False :=
        dop_sound hC g1 hpo hEo hd fun cv w2 h => ⟨cv, w2, h⟩
      obtain ⟨_, _, cv, w2, v', σ', m2, k1, k2, k3, k4⟩ := wp_ex hwp
      obtain ⟨⟨e1, e2⟩, _⟩ := chk_spec k1
      subst e1 e2
      rw [hσ] at k3
      exact fin m2 w2 cv k2 k3 k4 hx
    cases hw : W i with
    | false =>
      obtain ⟨e1, e2, e3⟩ := hst.off hw
      refine fin m' w' (.tuple #[]) (Sub.refl m') (by rw [e2]; exact g1) (by rw [e1]; simp only [VR]; exact ⟨[], rfl, by simp [VRs]⟩) (by rw [e2, e3]; exact g3)
    | true =>
      cases hp : pureOp C.calls o with
      | true =>
        obtain ⟨⟨σ', hrun⟩, e2, e3⟩ := hst.pure hw hp
        have h1 : dop C ((E i).only (opTmps o)) o (H i) (fun v _ => some v) = some (V i) := hrun _ _
        obtain ⟨v, hv1, hv2⟩ := dop_ext hC hp h1
        refine go (Z i) ?_ e2.symm (by rw [e2, e3]; exact g3)
        rw [hv2 (Z i) g3, chk_pos ⟨Option.some.inj hv1, rfl⟩]
      | false =>
        cases hal : allocOp o with
        | true =>
          obtain ⟨hd, e3⟩ := hst.alloc hw hp hal
          refine go (Z (i + 1)) (by rw [hd Unit _, chk_pos ⟨rfl, rfl⟩]) rfl ?_
          obtain ⟨ob, v, _, h6, _⟩ := alloc_at hal (hd (AVal × Heap) (fun v σ => some (v, σ)))
          obtain ⟨_, e2⟩ := Prod.mk.inj (Option.some.inj h6)
          rw [e3, ← e2]
          intro l x h
          have h2 := g3 l x h
          have := g1.loc_lt h2
          simp only [Heap.new]; rw [if_neg (by omega)]; exact h2
        | false =>
          obtain ⟨hd, e3⟩ := hst.noisy hw (by simp [noisy, hp, hal])
          exact go (Z (i + 1)) (by rw [hd Unit _, chk_pos ⟨rfl, rfl⟩]) rfl (by rw [e3]; exact Ext.refl _)

/-- **Regions: what the abstract machine does, the model does in every order.** -/
theorem regSound {C : Cx} (hC : ∀ f s, C.calls f = some s → SpecOk C.P C.NG f s) (hm : C.P.follows .mixedOrders = true) : RegSound C := by
  intro id ops draw e σ Rt K r h B w0 m w a hR hpm hE
  unfold regK at h
  cases draw with
  | false =>
    simp only [cond_false] at h
    refine wp_region ?_
    rw [List.range_eq_range', ← Array.length_toList]
    refine dops_sound hC (fun e' σ' m' a' w' hk hA => ⟨.normal, e', σ', m', trivial, hk, hA⟩) ops.toList 0 e σ m a w hpm (fun j => by simp) h ⟨Sub.refl m, hR, hE, rfl, fun _ _ => rfl⟩
  | true =>
    simp only [cond_true] at h
    cases hd : drawOk C.calls ops with
    | false => rw [hd] at h; cases h
    | true =>
      rw [hd] at h
      simp only [cond_true] at h
      obtain ⟨E, H, Z, W, V, h1, h2, h3, h4, h5⟩ := ddops_run (hN_of hC) _ _ _ _ _ _ _ h
      have hE0 : EnvR C m (E 0) a := ⟨fun t u ht => hE.tmp t u (by rw [← h2]; exact ht), hE.glob, hE.size⟩
      have hR0 : R B w0 m (Z 0) { w with drawn := w.drawn + 1 } := by rw [h4]; exact hR.drawn _
      have hs : Sit C ops E H Z W V B w0 m a := ⟨drawOk_spec hd, h5, h3.trans h4.symm, hE0.tmp, hE.glob, fun l p hl => (hR0.dom l p hl).1, hR0.oldn, hC, hpm, fun i hi => (run_cl hC h5 (h3.trans h4.symm) hR0 hE0 hpm ops.size (Nat.le_refl _)).2 i hi⟩
      have hnl : ∀ j, ¬ Ld (Array.replicate ops.size false) j := fun j hj => by
        unfold Ld at hj
        simp only [Array.getD_eq_getD_getElem?, Array.getElem?_replicate] at hj
        split at hj <;> simp at hj
      have h0N := hs.mono (Nat.zero_le ops.size) (Nat.le_refl _)
      rw [Array.length_toList] at h1
      refine wp_region_any hm (hs.all (fun mc a' w' hA => ⟨.normal, _, _, mc, trivial, h1, hA⟩) ops.size _ 0 m ⟨(Z ops.size).next, (Z 0).get⟩ a _ ?_ ?_ ?_)
      · have : ∀ n, cnt (Array.replicate ops.size false) n ≤ n := fun n => by
          induction n with
          | zero => exact Nat.le_refl _
          | succ n ih => simp only [cnt]; split <;> omega
        exact this _
      · refine ⟨by simp, fun j o _ hj => absurd hj (hnl j), Nat.zero_le _, fun j _ => ⟨fun hj => absurd hj (hnl j), fun hj => by omega⟩, .inl rfl, Sub.refl m, fun l p hl => .inl (hR0.dom l p hl).1,
          ⟨hR0.obj, fun l p hl => ⟨Nat.lt_of_lt_of_le (hR0.dom l p hl).1 h0N, (hR0.dom l p hl).2⟩, hR0.excl, hR0.own, hR0.below, hR0.base, Nat.le_trans hR0.oldn h0N, hR0.old⟩, rfl, fun l x hx => hx, fun l x hx => hR0.loc_lt hx, fun k _ hk => absurd hk (hnl k), fun l x hx => .inl ⟨hR0.loc_lt hx, hx⟩, fun l x hx => ?_, fun k x _ hk => absurd hk (hnl k)⟩
        obtain ⟨p, g1, g2⟩ := hR0.obj l x hx
        exact ⟨p, g1, g2.mono (fun l' q hl => by rw [cut_lt (hR0.dom l' q hl).1]; exact hl) rfl⟩
      · exact ⟨fun i o t _ hj => absurd hj (hnl i), fun t _ => rfl, hE.size, rfl⟩

end Go.Proofs.YtgneblbblihaoaaDoor.A
