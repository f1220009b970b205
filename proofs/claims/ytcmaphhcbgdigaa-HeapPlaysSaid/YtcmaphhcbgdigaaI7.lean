/- HeapPlays: the plain law. -/
import Derived.Test.YtcmaphhcbgdigaaI6
set_option linter.all false
namespace Go.Proofs.Ytcmaphhcbgdigaa.A
open Go

/-- A slice of things to do, below b. -/
def IsDos (b : Nat) (σ : Heap) (v : AVal) (xs : List (Int × Int × Int)) : Prop :=
  (v = .nils ∧ xs = []) ∨ ∃ l md cs, l < b ∧ v = .sl l 0 xs.length none ∧ σ.get l = some (.cells md 3 cs) ∧ ∀ (i : Nat) x, xs[i]? = some x → cs[i * 3]? = some (.int .i64 x.1) ∧ cs[i * 3 + 1]? = some (.int .i64 x.2.1) ∧ cs[i * 3 + 2]? = some (.int .i64 x.2.2)
theorem IsDos.keep {b : Nat} {σ σ' : Heap} {v : AVal} {xs : List (Int × Int × Int)} (h : IsDos b σ v xs) (k : ∀ l, l < b → σ'.get l = σ.get l) : IsDos b σ' v xs := by
  rcases h with h | ⟨l, md, cs, a, h1, c, d⟩
  · exact .inl h
  · exact .inr ⟨l, md, cs, a, h1, (k l a).trans c, d⟩
theorem IsDos.len {b : Nat} {σ : Heap} {v : AVal} {xs : List (Int × Int × Int)} (h : IsDos b σ v xs) {Rt : Type} (K : Int → Option Rt) : lenV v K = K xs.length := by
  rcases h with ⟨rfl, rfl⟩ | ⟨l, md, cs, a, rfl, c, d⟩ <;> rfl
theorem ld_i {Rt : Type} {σ : Heap} {l o sz : Nat} {md : Md} {cs : List AVal} {n : Int} (hg : σ.get l = some (.cells md sz cs)) (hc : cs[o]? = some (.int .i64 n)) (K : Int → Option Rt) : ld σ (.ptr l o) (.I .i64) K = K n := by
  simp [ld, Heap.cell, hg, hc, asK]
theorem IsDos.at {b : Nat} {σ : Heap} {v : AVal} {xs : List (Int × Int × Int)} (h : IsDos b σ v xs) {i : Nat} (hi : i < xs.length) :
    ∃ l, l < b ∧ v = .sl l 0 xs.length none ∧ ∀ σ' : Heap, σ'.get l = σ.get l → (∀ {Rt : Type} (K : AVal → Option Rt), ixA σ' v 3 (i : Int) K = K (.ptr l (i * 3))) ∧ (∀ {Rt : Type} (K : Int → Option Rt), ld σ' (.ptr l (i * 3 + 0)) (.I .i64) K = K xs[i].1) ∧
      (∀ {Rt : Type} (K : Int → Option Rt), ld σ' (.ptr l (i * 3 + 1)) (.I .i64) K = K xs[i].2.1) ∧ ∀ {Rt : Type} (K : Int → Option Rt), ld σ' (.ptr l (i * 3 + 2)) (.I .i64) K = K xs[i].2.2 := by
  rcases h with ⟨rfl, rfl⟩ | ⟨l, md, cs, a, rfl, c, d⟩
  · exact absurd hi (Nat.not_lt_zero _)
  · obtain ⟨d1, d2, d3⟩ := d i xs[i] (List.getElem?_eq_getElem hi)
    exact ⟨l, a, rfl, fun σ' hg => ⟨fun K => ix_nat (hg.trans c) hi K, fun K => ld_i (hg.trans c) d1 K, fun K => ld_i (hg.trans c) d2 K, fun K => ld_i (hg.trans c) d3 K⟩⟩

/-- Both heaps. -/
structure Both (b0 : Nat) (σ : Heap) (lh lx : Nat) (F G : Nat → Prop) (st : HS) (N : Nat) (sc : Nat → Int) (inn : Nat → Bool) : Prop where
  p : Hp σ lh F st
  r : RHp σ lx G N sc inn
  c : Cor st N sc inn
  dF : ∀ l, F l → b0 ≤ l
  dG : ∀ l, G l → b0 ≤ l
  d : ∀ l, F l → ¬ G l
  b : b0 ≤ σ.next

section
variable {b0 : Nat} {σ σ1 σ2 : Heap} {lh lx : Nat} {F G F1 G2 : Nat → Prop} {st st1 : HS} {N N2 : Nat} {sc sc2 : Nat → Int} {inn inn2 : Nat → Bool}
theorem Both.mid (B : Both b0 σ lh lx F G st N sc inn) (s : Step σ σ1 F F1) : RHp σ1 lx G N sc inn := B.r.keep s.next fun l h => s.get l (fun e => B.d l e h) (B.r.lt h)
theorem Both.step (B : Both b0 σ lh lx F G st N sc inn) (s : Step σ σ1 F F1) (h1 : Hp σ1 lh F1 st1) (s2 : Step σ1 σ2 G G2) (h2 : RHp σ2 lx G2 N2 sc2 inn2) (c : Cor st1 N2 sc2 inn2) : Both b0 σ2 lh lx F1 G2 st1 N2 sc2 inn2 ∧ ∀ l, l < b0 → σ2.get l = σ.get l := by
  have hF1 : ∀ l, F1 l → ¬ G l := fun l h e => (s.foot l h).elim (fun z => B.d l z e) fun z => by have := B.r.lt e; omega
  have hb := B.b; have n1 := s.next; have n2 := s2.next
  refine ⟨⟨h1.keep s2.next fun l h => s2.get l (hF1 l h) (h1.at'.lt h), h2, c, fun l h => (s.foot l h).elim (B.dF l) fun z => by omega, fun l h => (s2.foot l h).elim (B.dG l) fun z => by omega,
    fun l h e => (s2.foot l e).elim (hF1 l h) fun z => by have := h1.at'.lt h; omega, by omega⟩, fun l hl => ?_⟩
  rw [s2.get l (fun e => by have := B.dG l e; omega) (by omega), s.get l (fun e => by have := B.dF l e; omega) (by omega)]
end

theorem pop_ref {σ : Heap} {lh : Nat} {F : Nat → Prop} {st : HS} (H : Hp σ lh F st) (hm : 0 < st.m) {tie : Int} (ht : -9223372036854775808 ≤ tie ∧ tie ≤ 9223372036854775807) :
    ∃ σ' F' st' v, S.heap_Heap_Pop (.ptr lh 0) tie σ = some ((((v : Nat) : Int), true), σ') ∧ (tops st)[tieAt tie (tops st).length]? = some v ∧ Hp σ' lh F' st' ∧ Step σ σ' F F' ∧ Taken st st' v := by
  by_cases hz : tie = 0
  · subst hz
    have h0 : 0 < (tops st).length := List.length_pos_iff.2 (tops_pos H.wf hm)
    obtain ⟨σ', st', e, H', s, tk⟩ := pop_zero H hm
    refine ⟨σ', F, st', st.hs 0, e, ?_, H', s, tk⟩
    have : tieAt 0 (tops st).length = 0 := by
      unfold tieAt
      rw [Int.zero_tmod, Int.zero_add, Int.tmod_self]; rfl
    rw [this]; exact tops_head H.wf H.ho hm
  · obtain ⟨σ', F', st', v, e, h, r⟩ := pop_tie H hm hz ⟨ht.1, by omega⟩
    exact ⟨σ', F', st', v, e, h, r⟩

section
variable {b0 : Nat} {σ : Heap} {lh lx : Nat} {F G : Nat → Prop} {st : HS} {N : Nat} {sc : Nat → Int} {inn : Nat → Bool}

/-- What each thing comes to: the same answer, and both heaps say the same again. -/
def Goes (b0 : Nat) (σ : Heap) (lh lx : Nat) (r : Option (Bool × Heap)) : Prop :=
  ∃ σ' F' G' st' N' sc' inn', r = some (true, σ') ∧ Both b0 σ' lh lx F' G' st' N' sc' inn' ∧ ∀ l, l < b0 → σ'.get l = σ.get l

theorem goes_push (B : Both b0 σ lh lx F G st N sc inn) (v : Int) : Goes b0 σ lh lx ((S.heap_Heap_Push (.ptr lh 0) v σ).bind fun r21 => (S.skolemref8_Heap_Push (.ptr lx 0) v r21.2).bind fun r22 => some ((r21.1 == r22.1), r22.2)) := by
  have hN := B.c.N
  by_cases h : 0 < v ∧ v < st.N ∧ st.pl v.toNat = 0
  · obtain ⟨k, rfl⟩ := Int.eq_ofNat_of_zero_le (show 0 ≤ v by omega)
    obtain ⟨h0, h1, h2⟩ := h
    rw [Int.toNat_natCast] at h2
    obtain ⟨σ1, F1, st1, e1, H1, s1, p1⟩ := push_yes B.p (v := k) (by omega) (by omega) h2
    have hi : inn k = false := by
      cases hb : inn k with
      | false => rfl
      | true => have := (B.c.pl k (by omega)).2 ⟨by omega, hb⟩; omega
    obtain ⟨σ2, e2, H2, s2⟩ := rpush_yes (B.mid s1) (v := k) (by omega) (by omega) hi
    have N1 := p1.N
    obtain ⟨B', kk⟩ := B.step s1 H1 s2 H2 ⟨by rw [N1, hN], fun v a b => by rw [p1.sc]; exact B.c.sc v a (by omega), fun v hv => by
      rw [p1.pl v, B.c.pl v (by omega)]; unfold upd; split
      · rename_i e; subst e; simp; omega
      · rename_i e; simp [e]⟩
    exact ⟨σ2, _, _, _, _, _, _, by rw [e1]; simp only [Option.bind_some]; rw [e2]; rfl, B', kk⟩
  · have e1 := push_no B.p (v := v) h
    have e2 := rpush_no B.r (v := v) (fun hc => h ⟨hc.1, by omega, by
      have := B.c.pl v.toNat (by omega)
      rw [hc.2.2] at this; simp at this; exact this⟩)
    exact ⟨σ, _, _, _, _, _, _, by rw [e1]; simp only [Option.bind_some]; rw [e2]; rfl, B, fun _ _ => rfl⟩

theorem goes_bump (B : Both b0 σ lh lx F G st N sc inn) (v : Int) {b : Int} (hb : -9223372036854775808 ≤ b ∧ b ≤ 9223372036854775807) :
    ∃ r σ1, S.heap_Heap_Bump (.ptr lh 0) v b σ = some (r, σ1) ∧ (∀ l, l < b0 → σ1.get l = σ.get l) ∧ Goes b0 σ lh lx ((S.skolemref8_Heap_Bump (.ptr lx 0) v b σ1).bind fun r41 => some ((r == r41.1), r41.2)) := by
  have hN := B.c.N; have hbb := B.b
  by_cases h : 0 < v ∧ v < st.N
  · obtain ⟨k, rfl⟩ := Int.eq_ofNat_of_zero_le (show 0 ≤ v by omega)
    obtain ⟨σ1, st1, e1, H1, s1, p1⟩ := bump_yes B.p (v := k) (by omega) (by omega) b
    obtain ⟨σ2, e2, H2, s2⟩ := rbump_yes (B.mid s1) (v := k) (by omega) (by omega) hb
    have hsc := B.c.sc k (by omega) (by omega)
    have N1 := p1.N
    obtain ⟨B', kk⟩ := B.step s1 H1 s2 H2 ⟨by rw [N1, hN], fun v a b => by
      rw [p1.sc, hsc]; unfold upd; split
      · rfl
      · exact B.c.sc v a (by omega), fun v hv => by rw [p1.pl v]; exact B.c.pl v (by omega)⟩
    exact ⟨_, σ1, e1, fun l hl => s1.get l (fun e => by have := B.dF l e; omega) (by omega), σ2, _, _, _, _, _, _, by rw [e2, hsc]; simp, B', kk⟩
  · have e1 := bump_no B.p h b
    have e2 := rbump_no B.r (v := v) (by omega) b
    exact ⟨_, σ, e1, fun _ _ => rfl, σ, _, _, _, _, _, _, by rw [e2]; rfl, B, fun _ _ => rfl⟩

theorem goes_pop (B : Both b0 σ lh lx F G st N sc inn) {tie : Int} (ht : -9223372036854775808 ≤ tie ∧ tie ≤ 9223372036854775807) :
    ∃ r σ1, S.heap_Heap_Pop (.ptr lh 0) tie σ = some (r, σ1) ∧ (∀ l, l < b0 → σ1.get l = σ.get l) ∧
      Goes b0 σ lh lx ((S.skolemref8_Heap_Pop (.ptr lx 0) tie σ1).bind fun r30 => (cond (r.1 == r30.1.1) (some (r.2 == r30.1.2)) (some false)).bind fun r31 => some (r31, r30.2)) := by
  have hN := B.c.N; have hbb := B.b
  by_cases hm : st.m = 0
  · have e1 := pop_none B.p hm tie
    obtain ⟨σ2, b, hbest, s2, hr⟩ := rpop_eq B.r tie
    have hnil := (B.c.tops B.p.wf B.p.ho (fun v hv => (B.r.sc v hv).1) hbest).1 hm
    rcases hr with ⟨_, e2, H2⟩ | ⟨v, hv, _⟩
    · obtain ⟨B', kk⟩ := B.step (Step.refl σ F) B.p s2 H2 B.c
      exact ⟨_, σ, e1, fun _ _ => rfl, σ2, _, _, _, _, _, _, by rw [e2]; rfl, B', kk⟩
    · rw [hnil] at hv; simp at hv
  · obtain ⟨σ1, F1, st1, u, e1, hu, H1, s1, tk⟩ := pop_ref B.p (by omega) ht
    obtain ⟨σ2, b, hbest, s2, hr⟩ := rpop_eq (B.mid s1) tie
    have htop := (B.c.tops B.p.wf B.p.ho (fun v hv => (B.r.sc v hv).1) hbest).2 (by omega)
    rcases hr with ⟨hnil, _⟩ | ⟨v, hv, e2, H2⟩
    · exact absurd (htop.symm.trans hnil) (tops_pos B.p.wf (by omega))
    · rw [htop, hu] at hv
      simp only [Option.some.injEq] at hv
      subst hv
      have N1 := tk.N
      obtain ⟨B', kk⟩ := B.step s1 H1 s2 H2 ⟨by rw [N1, hN], fun v a b => by rw [tk.sc]; exact B.c.sc v a (by omega), fun v hv => by
        rw [tk.pl v, B.c.pl v (by omega)]; unfold upd; split
        · rename_i e; simp [e]
        · rename_i e; simp [e]⟩
      exact ⟨_, σ1, e1, fun l hl => s1.get l (fun e => by have := B.dF l e; omega) (by omega), σ2, _, _, _, _, _, _, by rw [e2]; simp, B', kk⟩

theorem goes_halve (B : Both b0 σ lh lx F G st N sc inn) : Goes b0 σ lh lx ((S.heap_Heap_Halve (.ptr lh 0) σ).bind fun r42 => (S.skolemref8_Heap_Halve (.ptr lx 0) r42.2).bind fun r43 => some (true, r43.2)) := by
  have hN := B.c.N
  obtain ⟨σ1, st1, e1, H1, s1, h1⟩ := halve_eq B.p
  obtain ⟨σ2, sc2, e2, H2, s2, h2⟩ := rhalve_eq (B.mid s1)
  have N1 := h1.N
  obtain ⟨B', kk⟩ := B.step s1 H1 s2 H2 ⟨by rw [N1, hN], fun v a b => by rw [h1.sc v (by omega), h2 v (by omega), if_pos a, B.c.sc v a (by omega)], fun v hv => by rw [h1.pl v]; exact B.c.pl v (by omega)⟩
  exact ⟨σ2, _, _, _, _, _, _, by rw [e1]; simp only [Option.bind_some]; rw [e2]; rfl, B', kk⟩

theorem goes_grow (B : Both b0 σ lh lx F G st N sc inn) (n : Int) : Goes b0 σ lh lx ((S.heap_Heap_Grow (.ptr lh 0) n σ).bind fun r48 => (S.skolemref8_Heap_Grow (.ptr lx 0) n r48.2).bind fun r49 => some (true, r49.2)) := by
  have hN := B.c.N
  obtain ⟨σ1, F1, st1, e1, H1, s1, h1⟩ := grow_eq B.p n
  obtain ⟨σ2, G2, N2, sc2, inn2, e2, H2, s2, h2⟩ := rgrow_eq (B.mid s1) n
  have N1 := h1.N; have N2' := h2.hN; have n1 := B.p.n1
  obtain ⟨B', kk⟩ := B.step s1 H1 s2 H2 ⟨by omega, fun v a b => by
    by_cases h : v < st.N
    · rw [h1.old v h, (h2.old v (by omega)).1]; exact B.c.sc v a h
    · rw [h1.fresh v (by omega) (by omega), (h2.fresh v (by omega) (by omega)).1], fun v hv => by
    rw [h1.pl v hv]
    by_cases h : v < st.N
    · rw [(h2.old v (by omega)).2, B.c.pl v h]
      constructor
      · rintro (a | a)
        · omega
        · exact a
      · exact .inr
    · rw [(h2.fresh v (by omega) (by omega)).2]
      exact ⟨fun _ => ⟨by omega, rfl⟩, fun _ => .inl (by omega)⟩⟩
  exact ⟨σ2, _, _, _, _, _, _, by rw [e1]; simp only [Option.bind_some]; rw [e2]; rfl, B', kk⟩
end
end Go.Proofs.Ytcmaphhcbgdigaa.A
