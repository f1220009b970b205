/- Making slices, appending, slicing. -/
import Derived.Test.YtgneblbblihaoaaDoorA3
set_option linter.all false
namespace Go.Proofs.YtgneblbblihaoaaDoor.A
open Go Go.RowKit

theorem wrap_i64 {n : Int} (h : -9223372036854775808 ≤ n) (k : n ≤ 9223372036854775807) : IntKind.i64.wrap n = n := by
  have e : (2 : Int) ^ 64 = 18446744073709551616 := by decide
  have e2 : (2 : Int) ^ (64 - 1) = 9223372036854775808 := by decide
  simp only [IntKind.wrap, IntKind.bits, IntKind.signed, Bool.true_and, decide_eq_true_eq, e, e2]
  split <;> omega

theorem rep_len (n : Nat) (z : List AVal) : (rep n z).length = n * z.length := by
  induction n with
  | zero => simp [rep]
  | succ n ih => simp [rep, ih, Nat.succ_mul]; omega

theorem rep_get (z : List AVal) (hz : 0 < z.length) : ∀ (n j : Nat), j < n * z.length → (rep n z)[j]? = z[j % z.length]?
  | 0, j, h => by simp at h
  | n + 1, j, h => by
    simp only [rep]
    by_cases hj : j < z.length
    · rw [List.getElem?_append_left hj, Nat.mod_eq_of_lt hj]
    · rw [List.getElem?_append_right (by omega), rep_get z hz n (j - z.length) (by rw [Nat.succ_mul] at h; omega)]
      rw [Nat.mod_eq_sub_mod (Nat.le_of_not_lt hj)]

section
variable {Rt : Type} {P : Program} {B : Nat → Prop} {w0 : Base} {m : Nat → Option Pl} {σ : Heap} {w : World} {K : AVal → Heap → Option Rt} {r : Rt}

/-- A new row of cells. -/
theorem R.row (hR : R B w0 m σ w) {sz cap : Nat} {cs : List AVal} {c : Array Value} (e : TypeId) (n : Nat) (hc : cs.length ≤ cap * sz) (hs : cap * sz ≤ c.size)
    (hg : ∀ (i : Nat) (a : AVal), cs[i]? = some a → ∃ v, c[i]? = some v ∧ VR m a v ∧ v.oneCell' = true) :
    Sub m (mset m σ.next ⟨w.heap.size, 0, cap, sz⟩) ∧ R B w0 (mset m σ.next ⟨w.heap.size, 0, cap, sz⟩) (σ.new (.cells .rw sz cs)) { w with heap := w.heap.push (.cells c e (0, 0)), drawn := n } := by
  refine ⟨Sub.mset hR.fresh _, hR.new _ ⟨w.heap.size, 0, cap, sz⟩ _ n rfl ⟨c, e, (0, 0), by simp, fun _ => rfl, rfl, trivial, hc, by simpa using hs, fun i a hi => ?_⟩⟩
  obtain ⟨v, h1, h2, h3⟩ := hg i a hi
  exact ⟨v, by simpa using h1, VR.mono (Sub.mset hR.fresh _) _ _ h2, h3⟩

theorem mset_self (l : Nat) (p : Pl) : mset m l p l = some p := by simp [mset]

theorem makeSlice_sound {t el : TypeId} {ei : TI} {i : TypeInfo} {d : TypeDesc} {z : Value} (hu : P.underlying t = some (.slice el)) (ht : TiOk P el ei i d z) (hR : R B w0 m σ w) {k1 k2 : IntKind} {len cap : Int}
    (h : mkS σ ei.size ei.bytes ei.zero len cap K = some r) : Yield P B w0 m K r (Instr.makeSlice t (.int k1 len) (.int k2 cap)) w := by
  unfold mkS at h
  split at h
  · rename_i hc
    obtain ⟨c1, c2, c3, c4⟩ := hc
    simp only [newK] at h
    have w1 : IntKind.i64.wrap len = len := wrap_i64 (by omega) (by omega)
    have w2 : IntKind.i64.wrap cap = cap := wrap_i64 (by omega) (by omega)
    have hcap : ((cap.toNat : Nat) : Int) = cap := Int.toNat_of_nonneg (by omega)
    have hb : ((i.bytes : Int)) * cap ≤ 281474976710656 := by
      rw [ht.bytes, Int.mul_comm]; omega
    have hrun : (Instr.makeSlice t (.int k1 len) (.int k2 cap)).run P w = .ok (.slice (some ⟨w.heap.size, 0, none⟩) len.toNat cap.toNat)
        { w with heap := w.heap.push (.cells ((Array.range (cap.toNat * ei.size)).map ((if cap.toNat * ei.size = 0 then #[] else z.cells)[· % (if cap.toNat * ei.size = 0 then #[] else z.cells).size]!)) el (0, 0)) } := by
      have t1 : ((cap < 0) || ((i.bytes : Int) * cap > 2 ^ 48)) = false := by
        rw [Bool.or_eq_false_iff]; exact ⟨by simp; omega, by simp; omega⟩
      simp only [Instr.makeSlice, Sem.run_bind, asInt, asIntOf, Sem.run_pure, Result.andThen_ok, ht.run_info, w1, w2, ht.run_size, underlying, run_program, hu]
      have t2 : (((cap < 0) || ((i.bytes : Int) * cap > 2 ^ 48)) || (len < 0) || (len > cap)) = false := by
        rw [t1]; simp; omega
      simp only [t2, Bool.false_eq_true, if_false, Result.andThen_ok, run_askRoom, Sem.run_ite, Sem.run_bind, Sem.run_pure, ht.run_zero]
      split <;> simp_all [newRow, ht.run_size]
    refine ⟨_, _, hrun, ?_⟩
    have hz := ht.zlen
    have hzl := ht.z_len
    obtain ⟨q1, q2⟩ := hR.row (sz := ei.size) (cap := cap.toNat) (cs := rep cap.toNat ei.zero)
      (c := (Array.range (cap.toNat * ei.size)).map ((if cap.toNat * ei.size = 0 then #[] else z.cells)[· % (if cap.toNat * ei.size = 0 then #[] else z.cells).size]!)) el w.drawn
      (by rw [rep_len, hz]; omega) (by simp) (fun j a hj => by
        have hlt : j < cap.toNat * ei.size := by
          have := (List.getElem?_eq_some_iff.1 hj).1
          rw [rep_len, hz] at this; exact this
        have hpos : 0 < ei.size := by
          rcases Nat.eq_zero_or_pos ei.size with e | e
          · rw [e] at hlt; simp at hlt
          · exact e
        rw [if_neg (by omega)]
        rw [rep_get _ (by omega) _ _ (by rw [hz]; exact hlt), hz] at hj
        obtain ⟨u1, u2⟩ := aOfs_VRs (m := m) ht.zs
        obtain ⟨v, v1, v2⟩ := u1.get _ _ hj
        refine ⟨v, ?_, v2, u2 v (List.mem_of_getElem? v1)⟩
        have hm : j % ei.size < z.cells.size := by rw [hzl]; exact Nat.mod_lt _ hpos
        simp only [Array.getElem?_map, Array.getElem?_range, hlt, if_true, Option.map_some, hzl]
        rw [getElem!_pos z.cells _ hm]
        rw [Array.getElem?_toList, Array.getElem?_eq_getElem hm] at v1
        exact v1)
    refine ⟨_, _, _, h, q1, q2, ?_⟩
    simp only [VR]
    exact ⟨_, cap.toNat, _, mset_self _ _, fun _ => by simp, fun k hk => (by cases hk), by omega, fun _ => by simp, rfl⟩
  · cases h

/-! ### Slicing -/
theorem sliceBound_run (x : Int) (k : IntKind) (y : Nat) (code : BoundsCode) (h0 : 0 ≤ x) (h1 : x ≤ y) (w : World) : (Instr.sliceBound (.int k x) y code).run P w = .ok x.toNat w := by
  simp [Instr.sliceBound, asIntOf, h0, h1]

def capM (mx : Option Int) (cap : Nat) : Nat := match mx with
  | some x => x.toNat
  | none => cap

/-- The value of an optional bound. -/
def optV (m : Nat → Option Pl) : Option Int → Option Value → Prop
  | none, v => v = none
  | some n, v => ∃ k, v = some (.int k n)

theorem sliceBounds_run {b : Bool} {len cap : Nat} {lo hi mx : Option Int} {cl ch cm : Option Value} (hlo : optV m lo cl) (hhi : optV m hi ch) (hmx : optV m mx cm) (hlc : len ≤ cap)
    (h0 : 0 ≤ lo.getD 0) (h1 : lo.getD 0 ≤ hi.getD len) (h2 : hi.getD len ≤ mx.getD len) (h3 : mx.getD len ≤ len) (h4 : (mx.isNone || hi.isSome) = true) (w : World) :
    (Instr.sliceBounds b len cap cl ch cm).run P w = .ok ((lo.getD 0).toNat, (hi.getD len).toNat, capM mx cap) w := by
  have hmi : 0 ≤ mx.getD len := by omega
  cases mx with
  | none =>
    simp only [optV] at hmx; subst hmx
    simp only [Option.getD_none] at h2 h3
    cases hi with
    | none =>
      simp only [optV] at hhi; subst hhi
      simp only [Option.getD_none] at h1 h2
      cases lo with
      | none => simp only [optV] at hlo; subst hlo; simp [Instr.sliceBounds, capM]
      | some x =>
        obtain ⟨k, rfl⟩ := hlo
        simp only [Option.getD_some] at h0 h1
        simp [Instr.sliceBounds, capM, sliceBound_run x k _ _ h0 h1]
    | some y =>
      obtain ⟨k, rfl⟩ := hhi
      simp only [Option.getD_some] at h1 h2
      have e1 : (Instr.sliceBound (.int k y) cap (if b = true then .sliceAcap else .sliceAlen)).run P w = .ok y.toNat w := sliceBound_run y k _ _ (by omega) (by omega) w
      cases lo with
      | none => simp only [optV] at hlo; subst hlo; simp [Instr.sliceBounds, capM, e1]
      | some x =>
        obtain ⟨k', rfl⟩ := hlo
        simp only [Option.getD_some] at h0 h1
        have e2 : (Instr.sliceBound (.int k' x) y.toNat .sliceB).run P w = .ok x.toNat w := sliceBound_run x k' _ _ h0 (by omega) w
        simp [Instr.sliceBounds, capM, e1, e2]
  | some y =>
    obtain ⟨km, rfl⟩ := hmx
    simp only [Option.getD_some] at h2 h3 hmi
    have e0 : (Instr.sliceBound (.int km y) cap (if b = true then .slice3Acap else .slice3Alen)).run P w = .ok y.toNat w := sliceBound_run y km _ _ hmi (by omega) w
    cases hi with
    | none => simp at h4
    | some u =>
      obtain ⟨k, rfl⟩ := hhi
      simp only [Option.getD_some] at h1 h2
      have e1 : (Instr.sliceBound (.int k u) y.toNat .slice3B).run P w = .ok u.toNat w := sliceBound_run u k _ _ (by omega) (by omega) w
      cases lo with
      | none => simp only [optV] at hlo; subst hlo; simp [Instr.sliceBounds, capM, e0, e1]
      | some x =>
        obtain ⟨k', rfl⟩ := hlo
        simp only [Option.getD_some] at h0 h1
        have e2 : (Instr.sliceBound (.int k' x) u.toNat .slice3C).run P w = .ok x.toNat w := sliceBound_run x k' _ _ h0 (by omega) w
        simp [Instr.sliceBounds, capM, e0, e1, e2]

theorem slice_sound {t el : TypeId} {ei : TI} {i : TypeInfo} {d : TypeDesc} {z : Value} (hu : P.underlying t = some (.slice el)) (ht : TiOk P el ei i d z) (hR : R B w0 m σ w) {v : AVal} {cv : Value} (hv : VR m v cv)
    {lo hi mx : Option Int} {cl ch cm : Option Value} (hlo : optV m lo cl) (hhi : optV m hi ch) (hmx : optV m mx cm)
    (h : slS σ ei.size v (lo.getD 0) hi mx (fun v => K v σ) = some r) : Yield P B w0 m K r (Instr.sliceAt t cv cl ch cm) w := by
  unfold slS at h
  split at h
  · split at h
    · rename_i hc
      obtain ⟨c1, c2, c3, c4⟩ := hc
      simp only [VR] at hv; subst hv
      refine Yield.pure (cv := .slice none 0 0) (v := .nils) ?_ hR (by simp [VR]) h
      have := sliceBounds_run (P := P) (b := true) (len := 0) (cap := 0) hlo hhi hmx (Nat.le_refl _) (by omega) (by simp; omega) (by simp; omega) (by simp; omega) c4 w
      have hm : capM mx 0 = 0 := by
        cases mx with
        | none => rfl
        | some x => simp at c3; simp [capM, c3]
      simp only [Int.ofNat_zero, Int.natCast_zero] at this
      simp [Instr.sliceAt, Instr.slice, underlying, hu, this, ht.run_size, hm, c1, c2]
    · cases h
  · rename_i l off len c
    split at h
    · rename_i md sz' cs hg
      split at h
      · rename_i hc
        obtain ⟨c1, c2, c3, c4, c5, c6⟩ := hc
        simp only [VR] at hv
        obtain ⟨p, capv, o, p1, p2, p3, p4, p5, rfl⟩ := hv
        obtain ⟨p', hp', g⟩ := hR.obj l _ hg
        rw [p1] at hp'; cases hp'
        obtain ⟨ca, e, fr, g1, g2, g3, g4, g5, g6, g7⟩ := g
        have hb := sliceBounds_run (P := P) (b := true) (len := len) (cap := capv) hlo hhi hmx p4 c2 c3 c4 c5 c6 w
        refine Yield.pure (v := .sl l (off + (lo.getD 0).toNat) ((hi.getD len).toNat - (lo.getD 0).toNat) (clipTo mx c (lo.getD 0))) (cv := .slice (if capM mx capv = (lo.getD 0).toNat then some o else (some o : Option Addr).map (·.add ((lo.getD 0).toNat * ei.size)))
            ((hi.getD len).toNat - (lo.getD 0).toNat) (capM mx capv - (lo.getD 0).toNat)) ?_ hR ?_ h
        · simp [Instr.sliceAt, Instr.slice, underlying, hu, hb, ht.run_size]
        · have hM : ∀ M : Nat, capM mx capv = M → M ≤ capv ∧ (lo.getD 0).toNat ≤ M ∧ (hi.getD len).toNat ≤ M ∧ (mx = none → M = capv) ∧ (∀ x, mx = some x → M = x.toNat) := fun M hM => by
            subst hM
            cases mx with
            | none => simp only [Option.getD_none] at c4 c5; simp only [capM]; exact ⟨Nat.le_refl _, by omega, by omega, fun _ => trivial, fun x hx => (by cases hx)⟩
            | some x => simp only [Option.getD_some] at c4 c5; simp only [capM]; exact ⟨by omega, by omega, by omega, fun hx => (by cases hx), fun y hy => (by cases hy; rfl)⟩
          obtain ⟨M, hMe⟩ : ∃ M, capM mx capv = M := ⟨_, rfl⟩
          obtain ⟨m1, m2, m3, m4, m5⟩ := hM M hMe
          rw [hMe]
          simp only [VR]
          refine ⟨p, M - (lo.getD 0).toNat, (if M = (lo.getD 0).toNat then o else o.add ((lo.getD 0).toNat * ei.size)), p1, fun hcl => ?_, fun k hk => ?_, by omega, fun hne => ?_, ?_⟩
          · unfold clipTo at hcl
            cases mx with
            | some x => cases hcl
            | none =>
              cases c with
              | some k => cases hcl
              | none => have := p2 rfl; have := m4 rfl; omega
          · unfold clipTo at hk
            have hcap : off + capv ≤ p.cap := by
              cases c with
              | none => have := p2 rfl; omega
              | some k => obtain ⟨x1, x2⟩ := p3 k rfl; omega
            cases mx with
            | some x => cases hk; have := m5 x rfl; exact ⟨by omega, by omega⟩
            | none =>
              cases c with
              | none => cases hk
              | some k' =>
                cases hk
                obtain ⟨x1, x2⟩ := p3 k' rfl
                have := m4 rfl
                exact ⟨by omega, by omega⟩
          · rw [if_neg (by omega), p5 (by omega), addr_add, g3, ← c1, Nat.add_mul, Nat.add_assoc]
          · by_cases e : M = (lo.getD 0).toNat
            · simp [e]
            · simp only [if_neg e, Option.map_some]
      · cases h
    · cases h
  · cases h

end
end Go.Proofs.YtgneblbblihaoaaDoor.A
