/- Each operation, whole: what the abstract machine does, the model does. -/
import Derived.Test.YtgneblbblihaoaaDoorA5
set_option linter.all false
namespace Go.Proofs.YtgneblbblihaoaaDoor.A
open Go Go.RowKit

def GlobR (NG : Nat) (m : Nat → Option Pl) : Prop := ∀ g, g < NG → ∃ p, m g = some p ∧ p.blk = g ∧ p.start = 0

def Spec.run : Spec → List AVal → Heap → Option (AVal × Heap)
  | .eff ks g, args, σ => (g args σ).map fun r => (retV ks r.1, r.2)
  | .pur ks g, args, σ => (g args σ).map fun x => (retV ks x, σ)

theorem doCall_run {Rt : Type} (s : Spec) (args : List AVal) (σ : Heap) (K : AVal → Heap → Option Rt) : doCall (some s) args σ K = (s.run args σ).bind fun r => K r.1 r.2 := by
  cases s with
  | eff ks g => simp only [doCall, Spec.run]; cases g args σ <;> rfl
  | pur ks g => simp only [doCall, Spec.run]; cases g args σ <;> rfl

/-- What a call of a function does, in every world. -/
structure SpecOk (P : Program) (NG : Nat) (f : FuncId) (s : Spec) : Prop where
  enters : ∃ fn, P.funcs[f]? = some fn ∧ (fn.name == "runtime.NumGoroutine") = false ∧ fn.body.isNone = false
  calls : ∀ B w0 m σ w args (cargs : List Value) v σ', s.run args σ = some (v, σ') → R B w0 m σ w → (w0.pm = true → isPur (some s) = true) → GlobR NG m → VRs m args cargs →
    Calls P f cargs.toArray w fun e w' => ∃ m' cv, e = .returned cv ∧ Sub m m' ∧ R B w0 m' σ' w' ∧ VR m' v cv
  next : ∀ args σ v σ', s.run args σ = some (v, σ') → Grw σ σ'
  ext : ∀ ks g, s = .pur ks g → ∀ args σ τ x, Ext σ τ → g args σ = some x → g args τ = some x

section
variable {Rt : Type} {C : Cx} {B : Nat → Prop} {w0 : Base} {m : Nat → Option Pl} {σ : Heap} {w : World} {r : Rt} {e : Env} {a : Act} {next : Act → World → Prop} {Q : Exit → Act → World → Prop} {o : Oper}

theorem wp_value {cv : Value} {w' : World} (h : (execOp a.eval o).run C.P w = .ok (.value cv) w') (hn : next (a.put o.dst cv) w') : o.wp C.P a w next Q := by
  simp only [Oper.wp, h, Oper.upon]; exact hn

theorem wp_yield {K : AVal → Heap → Option Rt} {s : Sem Value} (hs : execOp a.eval o = (do pure (.value (← s)))) (h : Yield C.P B w0 m K r s w)
    (hn : ∀ cv w', OpPost B w0 m K r cv w' → next (a.put o.dst cv) w') : o.wp C.P a w next Q := by
  obtain ⟨cv, w', h1, h2⟩ := h
  exact wp_value (by rw [hs]; simp [h1]) (hn _ _ h2)

theorem intK_sound {v : AVal} {cv : Value} {K : Int → Option Rt} (hv : VR m v cv) (h : intK v K = some r) : ∃ k n, cv = .int k n ∧ K n = some r := by
  unfold intK at h
  split at h
  · simp only [VR] at hv; exact ⟨_, _, hv, h⟩
  · cases h

theorem optK_sound (hE : EnvR C m e a) {x : Option Operand} {K : Option Int → Option Rt} (h : optK C e x K = some r) : ∃ n, K n = some r ∧ optV m n (x.map a.eval) := by
  unfold optK at h
  split at h
  · obtain ⟨v, h1, h2⟩ := ev_sound hE h
    obtain ⟨k, n, h3, h4⟩ := intK_sound h2 h1
    exact ⟨some n, h4, k, by simp [h3]⟩
  · exact ⟨none, h, rfl⟩

theorem binI_sound {K : AVal → Option Rt} {op : BinOp} {k : IntKind} {x y : Int} (hs : op ≠ .shl ∧ op ≠ .shr) (h : binI op k x y K = some r) : ∃ v cv, (binOp op 0 (.int k x) (.int k y)).run C.P w = .ok cv w ∧ K v = some r ∧ VR m v cv ∧
    (∀ t, binOp op t (.int k x) (.int k y) = binOp op 0 (.int k x) (.int k y)) := by
  cases op <;> simp only [binI] at h <;> first
    | cases h
    | (exact absurd rfl hs.1)
    | (exact absurd rfl hs.2)
    | (split at h
       · cases h
       · rename_i hy
         exact ⟨_, _, by simp [binOp, Op.intDiv, hy]; rfl, h, by simp [VR], fun _ => rfl⟩)
    | exact ⟨_, _, by simp [binOp, Op.intArith]; rfl, h, by simp [VR], fun _ => rfl⟩
    | exact ⟨_, _, by simp [binOp, Op.intBits]; rfl, h, by simp [VR], fun _ => rfl⟩
    | exact ⟨_, _, by simp [binOp, Op.intCmp]; rfl, h, by simp [VR], fun _ => rfl⟩

theorem shI_sound {K : AVal → Option Rt} {op : BinOp} {k k' : IntKind} {x y : Int} (hs : op = .shl ∨ op = .shr) (h : shI op k x y K = some r) (t : TypeId) : ∃ v cv, (binOp op t (.int k x) (.int k' y)).run C.P w = .ok cv w ∧ K v = some r ∧ VR m v cv := by
  unfold shI at h
  split at h
  · cases h
  · rename_i hy
    rcases hs with rfl | rfl <;> exact ⟨_, _, by simp [binOp, Op.shift, hy]; rfl, h, by simp [VR]⟩


theorem equal_one (t : TypeId) (x y : Value) : Op.equal t x y = Op.equalIn (9999 + 1) t x y := rfl

theorem addr_beq (b o o' s : Nat) : ((⟨b, s + o, none⟩ : Addr) == ⟨b, s + o', none⟩) = (o == o') := by
  rw [Bool.eq_iff_iff]; simp

theorem eqP_sound {x y : AVal} {cx cy : Value} {K : Bool → Option Rt} (hx : VR m x cx) (hy : VR m y cy) (h : eqP x y K = some r) {t el : TypeId} {ei : TI} {i : TypeInfo} {d : TypeDesc} {z : Value} (hu : C.P.underlying t = some (.pointer el))
    (ht : TiOk C.P el ei i d z) (hs : ei.size ≠ 0) (n : Nat) : ∃ b, (Op.equalIn (n + 1) t cx cy).run C.P w = .ok b w ∧ K b = some r := by
  unfold eqP at h
  split at h
  · simp only [VR] at hx hy; subst hx; subst hy
    exact ⟨true, by simp [Op.equalIn, underlying, hu], h⟩
  · simp only [VR] at hx hy; subst hx; obtain ⟨p, _, rfl⟩ := hy
    exact ⟨false, by simp [Op.equalIn, underlying, hu], h⟩
  · simp only [VR] at hx hy; subst hy; obtain ⟨p, _, rfl⟩ := hx
    exact ⟨false, by simp [Op.equalIn, underlying, hu], h⟩
  · split at h
    · rename_i l o l' o' e
      subst e
      simp only [VR] at hx hy
      obtain ⟨p, h1, rfl⟩ := hx
      obtain ⟨q, h2, rfl⟩ := hy
      rw [h1] at h2; cases h2
      refine ⟨_, ?_, h⟩
      simp only [Op.equalIn, Sem.run_bind, underlying, run_program, Result.andThen_ok, hu, Sem.run_pure, ht.run_size, Sem.run_ite, hs, ne_eq, not_false_eq_true, if_true, sameAddr, beq_self_eq_true, addr_beq]
    · cases h
  · cases h

theorem eqS_sound {x y : AVal} {cx cy : Value} {K : Bool → Option Rt} (hx : VR m x cx) (hy : VR m y cy) (h : eqS x y K = some r) {t el : TypeId} (hu : C.P.underlying t = some (.slice el)) (n : Nat) :
    ∃ b, (Op.equalIn (n + 1) t cx cy).run C.P w = .ok b w ∧ K b = some r := by
  unfold eqS at h
  split at h
  · simp only [VR] at hx hy; subst hx; subst hy
    exact ⟨true, by simp [Op.equalIn, underlying, hu], h⟩
  · simp only [VR] at hx hy; subst hx; obtain ⟨p, cv, o, _, _, _, _, _, rfl⟩ := hy
    exact ⟨false, by simp [Op.equalIn, underlying, hu], h⟩
  · simp only [VR] at hx hy; subst hy; obtain ⟨p, cv, o, _, _, _, _, _, rfl⟩ := hx
    exact ⟨false, by simp [Op.equalIn, underlying, hu], h⟩
  · cases h

theorem eqM_sound {x y : AVal} {cx cy : Value} {K : Bool → Option Rt} (hx : VR m x cx) (hy : VR m y cy) (h : eqM x y K = some r) {t k el : TypeId} (hu : C.P.underlying t = some (.map k el)) (n : Nat) :
    ∃ b, (Op.equalIn (n + 1) t cx cy).run C.P w = .ok b w ∧ K b = some r := by
  unfold eqM at h
  split at h
  · simp only [VR] at hx hy; subst hx; subst hy
    exact ⟨true, by simp [Op.equalIn, underlying, hu], h⟩
  · simp only [VR] at hx hy; subst hx; obtain ⟨p, _, rfl⟩ := hy
    exact ⟨false, by simp [Op.equalIn, underlying, hu], h⟩
  · simp only [VR] at hx hy; subst hy; obtain ⟨p, _, rfl⟩ := hx
    exact ⟨false, by simp [Op.equalIn, underlying, hu], h⟩
  · cases h

theorem eqF_sound {x y : AVal} {cx cy : Value} {K : Bool → Option Rt} (hx : VR m x cx) (hy : VR m y cy) (h : eqF x y K = some r) {t : TypeId} {ps rs : Array TypeId} {v : Bool} (hu : C.P.underlying t = some (.func ps rs v)) (n : Nat) :
    ∃ b, (Op.equalIn (n + 1) t cx cy).run C.P w = .ok b w ∧ K b = some r := by
  unfold eqF at h
  split at h
  · simp only [VR] at hx hy; subst hx; subst hy
    exact ⟨true, by simp [Op.equalIn, underlying, hu], h⟩
  · simp only [VR] at hx hy; subst hx; obtain ⟨p, _, rfl, _⟩ := hy
    exact ⟨false, by simp [Op.equalIn, underlying, hu], h⟩
  · simp only [VR] at hx hy; subst hy; obtain ⟨p, _, rfl, _⟩ := hx
    exact ⟨false, by simp [Op.equalIn, underlying, hu], h⟩
  · cases h

/-- Two cells of two objects, one each alone in its block. -/
theorem sameAddr_apart (P : Program) {a b : Addr} {c c' : Array Value} {e e' : TypeId} (hne : a.block ≠ b.block) (ha : w.heap[a.block]? = some (.cells c e (0, 0))) (hb : w.heap[b.block]? = some (.cells c' e' (0, 0))) :
    (sameAddr a b).run P w = .ok false w := by
  have hf1 : ∀ o : Nat, w.frozen? ⟨a.block, o, none⟩ = false := fun o => by simp [World.frozen?, ha]
  have hf2 : ∀ o : Nat, w.frozen? ⟨b.block, o, none⟩ = false := fun o => by simp [World.frozen?, hb]
  have hf3 : w.frozen? a = false := by simp [World.frozen?, ha]
  have hf4 : w.frozen? b = false := by simp [World.frozen?, hb]
  have hs1 : w.shape? a.block = some (e, c.size) := by simp [World.shape?, ha]
  have hs2 : w.shape? b.block = some (e', c'.size) := by simp [World.shape?, hb]
  have hbe : (a.block == b.block) = false := by simpa using hne
  have st1 : (stringish a).run P w = .ok false w := by simp [stringish, hf3, hs1, hf1]
  have st2 : (stringish b).run P w = .ok false w := by simp [stringish, hf4, hs2, hf2]
  simp [sameAddr, hbe, hf3, noView, viewAt, hs1, hs2, mayBeOne, st1, st2]

theorem equalIn_iface {t : TypeId} {ms : Array (String × TypeId)} (hu : C.P.underlying t = some (.interface ms)) (n : Nat) {tx ty : TypeId} {vx vy : Value} {i : TypeInfo} (hi : tx = ty → C.P.info? tx = some i) (hc : tx = ty → i.comparable = true) :
    (Op.equalIn (n + 1) t (.iface tx vx) (.iface ty vy)).run C.P w = if tx = ty then (Op.equalIn n tx vx vy).run C.P w else .ok false w := by
  by_cases e : tx = ty
  · have h1 := hi e; have h2 := hc e; subst e
    simp only [Op.equalIn, Sem.run_bind, underlying, run_program, Result.andThen_ok, hu, Sem.run_pure, ne_eq, not_true, if_false, typeInfo, h1, h2, Bool.not_true, Bool.false_eq_true, if_true]
  · simp only [Op.equalIn, Sem.run_bind, underlying, run_program, Result.andThen_ok, hu, Sem.run_pure, ne_eq, e, not_false_eq_true, if_true, if_false]

theorem equalIn_ptr {t el : TypeId} {ei : TI} {i : TypeInfo} {d : TypeDesc} {z : Value} (hu : C.P.underlying t = some (.pointer el)) (ht : TiOk C.P el ei i d z) (hs : ei.size ≠ 0) (n : Nat) (a b : Addr) :
    (Op.equalIn (n + 1) t (.pointer (some a)) (.pointer (some b))).run C.P w = (sameAddr a b).run C.P w := by
  simp only [Op.equalIn, Sem.run_bind, underlying, run_program, Result.andThen_ok, hu, Sem.run_pure, ht.run_size, Sem.run_ite, hs, ne_eq, not_false_eq_true, if_true]

theorem eqI_sound {x y : AVal} {cx cy : Value} {K : Bool → Option Rt} {cn : Bool} (hR : R B w0 m σ w) (hx : VR m x cx) (hy : VR m y cy) (h : eqI (tiOf C.P) σ cn x y K = some r) {t : TypeId} {ms : Array (String × TypeId)} (hu : C.P.underlying t = some (.interface ms)) (n : Nat) :
    ∃ b, (Op.equalIn (n + 1 + 1) t cx cy).run C.P w = .ok b w ∧ K b = some r ∧ (cn = false → ¬ (cx = .nilIface ∧ cy = .nilIface)) := by
  unfold eqI at h
  split at h
  · simp only [VR] at hx hy; subst hx; subst hy
    cases cn with
    | false => cases h
    | true => exact ⟨true, by simp [Op.equalIn, underlying, hu], h, by simp⟩
  · simp only [VR] at hx hy; subst hx; obtain ⟨p, rfl, _⟩ := hy
    exact ⟨false, by simp [Op.equalIn, underlying, hu], h, by simp⟩
  · simp only [VR] at hx hy; subst hy; obtain ⟨p, rfl, _⟩ := hx
    exact ⟨false, by simp [Op.equalIn, underlying, hu], h, by simp⟩
  · rename_i t1 l o t2 l' o'
    simp only [VR] at hx hy
    obtain ⟨_, rfl, p, p1, rfl⟩ := hx
    obtain ⟨_, rfl, q, q1, rfl⟩ := hy
    split at h
    · rename_i e
      subst e
      split at h
      · rename_i ti hti
        obtain ⟨i, d, z, ht⟩ := tiOf_spec hti
        split at h
        · rename_i el htk
          split at h
          · rename_i ei hei
            obtain ⟨i2, d2, z2, ht2⟩ := tiOf_spec hei
            cases hz : (Nat.beq ei.size 0 || !ti.cmp) with
            | true => rw [hz] at h; cases h
            | false =>
              rw [hz] at h
              simp only [cond_false] at h
              obtain ⟨hz, hcm⟩ := Bool.or_eq_false_iff.1 hz
              have hsz : ei.size ≠ 0 := fun e => by rw [e] at hz; cases hz
              have hd : d = .pointer el := by
                rw [ht.tk] at htk
                cases d <;> simp [tkOf] at htk
                subst htk; rfl
              subst hd
              have hc : i.comparable = true := by rw [ht.cmp]; simpa using hcm
              have hI := fun vx vy => equalIn_iface (w := w) (C := C) hu (n + 1) (tx := t1) (ty := t1) (vx := vx) (vy := vy) (i := i) (fun _ => ht.info) (fun _ => hc)
              split at h
              · rename_i e
                subst e
                rw [p1] at q1; cases q1
                refine ⟨_, ?_, h, by simp⟩
                rw [hI, if_pos rfl, equalIn_ptr ht.und ht2 hsz]
                simp only [sameAddr, beq_self_eq_true, if_true, addr_beq, Sem.run_pure]
              · rename_i hne
                split at h
                · rename_i md sz cs md' sz' cs' hg hg'
                  split at h
                  · rename_i hall
                    obtain ⟨p', hp', c, e, fr, g1, g2, g3⟩ := hR.obj l _ hg
                    rw [p1] at hp'; cases hp'
                    obtain ⟨q', hq', c', e', fr', k1, k2, k3⟩ := hR.obj l' _ hg'
                    rw [q1] at hq'; cases hq'
                    have hf1 : md.fr0 = true := hall.elim (fun h => Md.fr0_of_ex h.1) (fun h => h.1)
                    have hf2 : md'.fr0 = true := hall.elim (fun h => Md.fr0_of_ex h.2.1) (fun h => h.2.1)
                    have e1 := g2 hf1; subst e1
                    have e2 := k2 hf2; subst e2
                    refine ⟨_, ?_, h, by simp⟩
                    rw [hI, if_pos rfl, equalIn_ptr ht.und ht2 hsz]
                    by_cases hb : p.blk = q.blk
                    · have hst : strNe cs[o]? cs'[o']? = true := by
                        rcases hall with hall | hall
                        · exact absurd hb (hR.excl l l' _ _ p q hne hg hg' p1 q1 hall.1)
                        · exact hall.2.2
                      have hd : p.start + o ≠ q.start + o' := by
                        intro hd
                        unfold strNe at hst
                        split at hst
                        · rename_i s s' hs hs'
                          obtain ⟨v, v1, v2, _⟩ := g3.2.2.2.2 _ _ hs
                          obtain ⟨v', v1', v2', _⟩ := k3.2.2.2.2 _ _ hs'
                          simp only [VR] at v2 v2'
                          subst v2 v2'
                          rw [hb] at g1
                          rw [g1] at k1; cases k1
                          rw [hd] at v1; rw [v1] at v1'
                          simp only [Option.some.injEq, Value.string.injEq] at v1'
                          simp [v1'] at hst
                        · cases hst
                      have : (Addr.mk p.blk (p.start + o) none == Addr.mk q.blk (q.start + o') none) = false := by simp [hd]
                      simp only [sameAddr, hb, beq_self_eq_true, if_true, addr_beq, Sem.run_pure]
                      congr 1
                      simpa [hb] using hd
                    · exact sameAddr_apart (w := w) C.P (a := ⟨p.blk, p.start + o, none⟩) (b := ⟨q.blk, q.start + o', none⟩) hb g1 k1
                  · cases h
                · cases h
          · cases h
        · cases h
      · cases h
    · rename_i hne
      refine ⟨false, ?_, h, by simp⟩
      rw [equalIn_iface (i := default) hu (n + 1) (fun e => (hne e).elim) (fun e => (hne e).elim), if_neg hne]
  · cases h

end
end Go.Proofs.YtgneblbblihaoaaDoor.A
