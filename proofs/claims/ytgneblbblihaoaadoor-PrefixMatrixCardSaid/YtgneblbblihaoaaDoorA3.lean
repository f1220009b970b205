/- Each operation of the model does what the abstract one says. -/
import Derived.Test.YtgneblbblihaoaaDoorA2
set_option linter.all false
namespace Go.Proofs.YtgneblbblihaoaaDoor.A
open Go Go.RowKit

structure TiOk (P : Program) (t : TypeId) (ti : TI) (i : TypeInfo) (d : TypeDesc) (z : Value) : Prop where
  info : P.info? t = some i
  und : P.underlying t = some d
  zero : i.zero = some z
  zs : aOfs z.cells.toList = some ti.zero
  tk : ti.tk = tkOf d
  size : i.size = ti.size
  bytes : i.bytes = ti.bytes
  zlen : ti.zero.length = ti.size
  cmp : i.comparable = ti.cmp
  one : isAg ti.tk = false → z.oneCell' = true

theorem tiOf_spec {P : Program} {t : TypeId} {ti : TI} (h : tiOf P t = some ti) : ∃ i d z, TiOk P t ti i d z := by
  unfold tiOf at h
  split at h
  · rename_i i hi
    split at h
    · rename_i d hd
      split at h
      · rename_i z hz
        split at h
        · rename_i cs hcs
          cases hb : (Nat.beq cs.length i.size && (isAg (tkOf d) || z.oneCell')) with
          | false => rw [hb] at h; cases h
          | true =>
            rw [hb] at h
            simp only [cond_true, Option.some.injEq] at h
            subst h
            obtain ⟨hb1, hb2⟩ := Bool.and_eq_true_iff.1 hb
            exact ⟨i, d, z, hi, hd, hz, hcs, rfl, rfl, rfl, Nat.eq_of_beq_eq_true hb1, rfl, fun ha => by rw [ha] at hb2; exact hb2⟩
        · cases h
      · cases h
    · cases h
  · cases h

section
variable {P : Program} {t : TypeId} {ti : TI} {i : TypeInfo} {d : TypeDesc} {z : Value} (h : TiOk P t ti i d z) (w : World)
include h
theorem TiOk.run_und : (underlying t).run P w = .ok d w := by simp [underlying, h.und]
theorem TiOk.run_info : (typeInfo t).run P w = .ok i w := by simp [typeInfo, h.info]
theorem TiOk.run_size : (sizeOf t).run P w = .ok ti.size w := by simp [sizeOf, h.run_info, h.size]
theorem TiOk.run_zero : (zeroValue t).run P w = .ok z w := by simp [zeroValue, h.run_info, h.zero]
theorem TiOk.run_isAgg : (isAgg t).run P w = .ok (isAg ti.tk) w := by
  simp only [isAgg, Sem.run_bind, h.run_und, Result.andThen_ok, h.tk]
  cases d <;> simp [tkOf, isAg]
theorem TiOk.z_len : z.cells.size = ti.size := by
  have := (aOfs_VRs (m := fun _ => none) h.zs).1.length
  simpa [h.zlen] using this
end

theorem Cx.ti_spec {Rt : Type} {C : Cx} {t : TypeId} {K : TI → Option Rt} {r : Rt} (h : C.ti t K = some r) : ∃ ti i d z, TiOk C.P t ti i d z ∧ K ti = some r := by
  unfold Cx.ti at h
  split at h
  · rename_i ti hti
    obtain ⟨i, d, z, hh⟩ := tiOf_spec hti
    exact ⟨ti, i, d, z, hh, h⟩
  · cases h

theorem asK_spec {Rt : Type} {k : Kd} {v : AVal} {K : k.ty → Option Rt} {r : Rt} (h : asK k v K = some r) : ∃ x, k.val x = v ∧ K x = some r := by
  unfold asK at h
  split at h
  · split at h
    · rename_i e; subst e; exact ⟨_, rfl, h⟩
    · cases h
  · cases h
  · exact ⟨_, rfl, h⟩
  · cases h
  · exact ⟨_, rfl, h⟩
  · cases h
  · exact ⟨_, rfl, h⟩

structure EnvR (C : Cx) (m : Nat → Option Pl) (e : Env) (a : Act) : Prop where
  tmp : ∀ t v, e.get t = some v → VR m v (a.tmps.getD t undef)
  glob : ∀ g, g < C.NG → ∃ p, m g = some p ∧ p.blk = g ∧ p.start = 0
  size : a.tmps.size = C.n

theorem EnvR.mono {C : Cx} {m m' : Nat → Option Pl} {e : Env} {a : Act} (h : EnvR C m e a) (S : Sub m m') : EnvR C m' e a :=
  ⟨fun t v ht => VR.mono S _ _ (h.tmp t v ht), fun g hg => let ⟨p, h1, h2⟩ := h.glob g hg; ⟨p, S _ _ h1, h2⟩, h.size⟩

theorem ev_sound {Rt : Type} {C : Cx} {m : Nat → Option Pl} {e : Env} {a : Act} {x : Operand} {K : AVal → Option Rt} {r : Rt} (hE : EnvR C m e a) (h : ev C e x K = some r) :
    ∃ v, K v = some r ∧ VR m v (a.eval x) := by
  cases x with
  | tmp t =>
    simp only [ev] at h
    split at h
    · rename_i v hv; exact ⟨v, h, hE.tmp t v hv⟩
    · cases h
  | const v =>
    simp only [ev] at h
    split at h
    · rename_i u hu; exact ⟨u, h, (aOf_VR hu).1⟩
    · cases h
  | global g =>
    simp only [ev] at h
    cases hb : Nat.blt g C.NG with
    | false => rw [hb] at h; cases h
    | true =>
      rw [hb] at h
      obtain ⟨p, h1, h2, h3⟩ := hE.glob g (by simpa [Nat.blt_eq] using hb)
      exact ⟨_, h, by simp only [VR]; exact ⟨p, h1, by simp [Act.eval, h2, h3]⟩⟩
  | func f =>
    simp only [ev] at h
    exact ⟨_, h, by simp only [VR]; exact ⟨[], [], rfl, by simp [VRs], by simp [VRs]⟩⟩

theorem evs_sound {Rt : Type} {C : Cx} {m : Nat → Option Pl} {e : Env} {a : Act} (hE : EnvR C m e a) : ∀ {xs : List Operand} {K : List AVal → Option Rt} {r : Rt}, evs C e xs K = some r →
    ∃ vs, K vs = some r ∧ VRs m vs (xs.map a.eval)
  | [], K, r, h => ⟨[], h, by simp [VRs]⟩
  | x :: xs, K, r, h => by
    simp only [evs] at h
    obtain ⟨v, h1, h2⟩ := ev_sound hE h
    obtain ⟨vs, h3, h4⟩ := evs_sound hE h1
    exact ⟨v :: vs, h3, ⟨_, _, rfl, h2, h4⟩⟩

theorem scal_spec {Rt : Type} {v : AVal} {X : Option Rt} {r : Rt} (h : scal v X = some r) : X = some r ∧ isScal v = true := by
  unfold scal at h
  split at h
  · cases h
  · cases h
  · exact ⟨h, by unfold isScal; split <;> simp_all⟩

theorem cellsK_sound {Rt : Type} {m : Nat → Option Pl} {i : TI} {v : AVal} {cv : Value} {K : List AVal → Option Rt} {r : Rt} (hv : VR m v cv) (h : cellsK i v K = some r) :
    ∃ vs, K vs = some r ∧ VRs m vs cv.cells.toList ∧ (∀ u ∈ cv.cells.toList, u.oneCell' = true) ∧ vs.length = i.size := by
  unfold cellsK at h
  cases hb : isAg i.tk with
  | true =>
    rw [hb] at h; simp only [cond_true, aggK] at h
    split at h
    · rename_i cs
      split at h
      · simp only [VR] at hv
        obtain ⟨us, rfl, h1, h2⟩ := hv
        exact ⟨cs, h, by simpa [Value.cells] using h1, by simpa [Value.cells] using h2, by assumption⟩
      · cases h
    · cases h
  | false =>
    rw [hb] at h; simp only [cond_false] at h
    cases hn : Nat.beq i.size 1 with
    | false => rw [hn] at h; cases h
    | true =>
      rw [hn] at h; simp only [cond_true] at h
      obtain ⟨h1, h2⟩ := scal_spec h
      have h3 := hv.one h2
      have h4 := Nat.eq_of_beq_eq_true hn
      rw [cells_one h3]
      exact ⟨[v], h1, ⟨cv, [], by simp, hv, by simp [VRs]⟩, by simpa using h3, by simp [h4]⟩

def OpPost {Rt : Type} (B : Nat → Prop) (w0 : Base) (m : Nat → Option Pl) (K : AVal → Heap → Option Rt) (r : Rt) (cv : Value) (w' : World) : Prop :=
  ∃ v σ' m', K v σ' = some r ∧ Sub m m' ∧ R B w0 m' σ' w' ∧ VR m' v cv

/-- A value is yielded. -/
def Yield {Rt : Type} (P : Program) (B : Nat → Prop) (w0 : Base) (m : Nat → Option Pl) (K : AVal → Heap → Option Rt) (r : Rt) (s : Sem Value) (w : World) : Prop :=
  ∃ cv w', s.run P w = .ok cv w' ∧ OpPost B w0 m K r cv w'

theorem Yield.pure {Rt : Type} {P : Program} {B : Nat → Prop} {w0 : Base} {m : Nat → Option Pl} {σ : Heap} {K : AVal → Heap → Option Rt} {r : Rt} {v : AVal} {cv : Value} {s : Sem Value} {w : World}
    (h : s.run P w = .ok cv w) (hR : R B w0 m σ w) (hv : VR m v cv) (hk : K v σ = some r) : Yield P B w0 m K r s w :=
  ⟨cv, w, h, v, σ, m, hk, Sub.refl m, hR, hv⟩

section
variable {Rt : Type} {P : Program} {B : Nat → Prop} {w0 : Base} {m : Nat → Option Pl} {σ : Heap} {w : World} {K : AVal → Heap → Option Rt} {r : Rt}

theorem addr_add (b o n : Nat) : (⟨b, o, none⟩ : Addr).add n = ⟨b, o + n, none⟩ := by unfold Addr.add; split <;> simp_all

theorem load_same {K : AVal → Option Rt} {t : TypeId} {ti : TI} {i : TypeInfo} {d : TypeDesc} {z : Value} (ht : TiOk P t ti i d z) (hR : R B w0 m σ w) {a : AVal} {ca : Value} (ha : VR m a ca)
    (h : loadK ti σ a K = some r) : ∃ v cv, (Instr.loadAt t ca).run P w = .ok cv w ∧ K v = some r ∧ VR m v cv := by
  unfold loadK at h
  cases hb : isAg ti.tk with
  | true =>
    rw [hb] at h; simp only [cond_true, ldG] at h
    split at h
    · rename_i l o
      split at h
      · rename_i md sz cs hg
        split at h
        · rename_i hn
          simp only [VR] at ha
          obtain ⟨p, hp, rfl⟩ := ha
          obtain ⟨p', hp', c, e, fr, g1, g2, g3, g4, g5, g6, g7⟩ := hR.obj l _ hg
          rw [hp] at hp'; cases hp'
          have hc : ∀ j, j < ti.size → ∃ v, c[p.start + o + j]? = some v ∧ VR m (cs.getD (o + j) (.tup [])) v ∧ v.oneCell' = true := fun j hj => by
            have hlt : o + j < cs.length := by omega
            obtain ⟨v, q1, q2, q3⟩ := g7 (o + j) _ (List.getElem?_eq_getElem hlt)
            exact ⟨v, by rw [Nat.add_assoc]; exact q1, by simpa [List.getD, hlt] using q2, q3⟩
          let us : List Value := (List.range ti.size).map fun j => c[p.start + o + j]?.getD undef
          have hus : ∀ j, j < ti.size → us[j]? = c[p.start + o + j]? := fun j hj => by
            obtain ⟨v, q1, _, _⟩ := hc j hj
            simp [us, hj, q1]
          have hlen : us.length = ti.size := by simp [us]
          refine ⟨.agg ((cs.drop o).take ti.size), .agg us.toArray, ?_, h, ?_⟩
          · simp only [Instr.loadAt, Instr.sureAddr, loadVar, Sem.run_bind, Sem.run_pure, Result.andThen_ok, ht.run_isAgg, hb, if_true, ht.run_size]
            rw [← hlen, run_loadCells_list w _ us (fun j v hj => ?_)]
            · rfl
            · have hjl : j < ti.size := by rw [← hlen]; exact (List.getElem?_eq_some_iff.1 hj).1
              rw [addr_add]
              simp only [World.cell?, g1]
              rw [hus j hjl] at hj
              simpa using hj
          · simp only [VR]
            refine ⟨us, rfl, VRs.of_get (by simp [hlen]; omega) (fun j x hx => ?_), fun u hu => ?_⟩
            · have hjl : j < ti.size := by
                have := (List.getElem?_eq_some_iff.1 hx).1
                simp at this; omega
              obtain ⟨v, q1, q2, q3⟩ := hc j hjl
              refine ⟨v, by rw [hus j hjl]; exact q1, ?_⟩
              rw [List.getElem?_take, if_pos hjl, List.getElem?_drop] at hx
              simp [List.getD, hx] at q2
              exact q2
            · obtain ⟨j, hj, rfl⟩ := List.getElem_of_mem hu
              obtain ⟨v, q1, q2, q3⟩ := hc j (by omega)
              have h1 := hus j (by omega)
              rw [List.getElem?_eq_getElem hj, q1] at h1
              cases h1
              exact q3
        · cases h
      · cases h
    · cases h
  | false =>
    rw [hb] at h; simp only [cond_false, ld] at h
    split at h
    · rename_i l o
      split at h
      · rename_i v hc
        obtain ⟨x, h1, h2⟩ := asK_spec h
        rw [h1] at h2
        simp only [VR] at ha
        obtain ⟨p, hp, rfl⟩ := ha
        obtain ⟨p', u, g1, g2, g3, g4⟩ := hR.cell hc
        rw [hp] at g1; cases g1
        refine ⟨v, u, ?_, h2, g3⟩
        simp only [Instr.loadAt, Instr.sureAddr, loadVar, Sem.run_bind, Sem.run_pure, Result.andThen_ok, ht.run_isAgg, hb, Bool.false_eq_true, if_false, run_load, g2]
      · cases h
    · cases h

theorem load_sound {t : TypeId} {ti : TI} {i : TypeInfo} {d : TypeDesc} {z : Value} (ht : TiOk P t ti i d z) (hR : R B w0 m σ w) {a : AVal} {ca : Value} (ha : VR m a ca)
    (h : loadK ti σ a (fun v => K v σ) = some r) : Yield P B w0 m K r (Instr.loadAt t ca) w :=
  let ⟨_, _, h1, h2, h3⟩ := load_same ht hR ha h
  Yield.pure h1 hR h3 h2

/-- Storing: a unit is yielded. -/
theorem store_sound {t : TypeId} {ti : TI} {i : TypeInfo} {d : TypeDesc} {z : Value} (ht : TiOk P t ti i d z) (hR : R B w0 m σ w) (hpm : w0.pm = false) {a v : AVal} {ca cv : Value} {K : Heap → Option Rt} (ha : VR m a ca) (hv : VR m v cv)
    (h : cellsK ti v (fun vs => stC σ a vs K) = some r) : ∃ w' σ', (Instr.storeAt t ca cv).run P w = .ok () w' ∧ R B w0 m σ' w' ∧ K σ' = some r := by
  obtain ⟨vs, h1, h2, h3, h4⟩ := cellsK_sound hv h
  unfold stC at h1
  split at h1
  · rename_i l o
    split at h1
    · rename_i sz cs hg
      split at h1
      · rename_i hn
        simp only [VR] at ha
        obtain ⟨p, hp, rfl⟩ := ha
        obtain ⟨w', k1, k2⟩ := hR.store P hpm (us := cv.cells.toList) hg hp h2 h3 hn
        refine ⟨w', _, ?_, k2, h1⟩
        have hsz : cv.cells.size = ti.size := by have := h2.length; simpa [h4] using this
        simp only [Instr.storeAt, Instr.sureAddr, storeVar, Sem.run_bind, Sem.run_pure, Result.andThen_ok, ht.run_size, hsz, ne_eq, not_true, if_false]
        exact k1
      · cases h1
    · cases h1
  · cases h1

end
end Go.Proofs.YtgneblbblihaoaaDoor.A
