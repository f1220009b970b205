/- Each operation, whole, IV: all. -/
import Derived.Test.YtgneblbblihaoaaDoorA8
import Derived.Test.YtgneblbblihaoaaDoorD0
set_option linter.all false
namespace Go.Proofs.YtgneblbblihaoaaDoor.A
open Go Go.RowKit

section
variable {Rt : Type} {C : Cx} {B : Nat → Prop} {w0 : Base} {m : Nat → Option Pl} {σ : Heap} {w : World} {r : Rt} {e : Env} {a : Act} {next : Act → World → Prop} {Q : Exit → Act → World → Prop} {o : Oper} {K : AVal → Heap → Option Rt}

theorem arr_one {α : Type} {xs : Array α} {x : α} (h : xs.toList = [x]) : xs = #[x] := by apply Array.ext'; simpa using h
theorem arr_two {α : Type} {xs : Array α} {x y : α} (h : xs.toList = [x, y]) : xs = #[x, y] := by apply Array.ext'; simpa using h

theorem pmf {w0 : Base} {p : Prop} (h : w0.pm = true → p) (hn : ¬ p) : w0.pm = false := by
  cases hx : w0.pm with
  | false => rfl
  | true => exact absurd (h hx) hn

theorem asInt_run {P : Program} (k : IntKind) (n : Int) (w : World) : (asInt (.int k n)).run P w = .ok n w := by rfl

theorem appZ_sound {K : AVal → Heap → Option Rt} {P : Program} {t u el : TypeId} {k : IntKind} {ei : TI} {i : TypeInfo} {d : TypeDesc} {z : Value} (hu : P.underlying t = some (.slice el)) (huu : P.underlying u = some (.int k))
    (ht : TiOk P el ei i d z) (hR : R B w0 m σ w) {s : AVal} {cs : Value} {n : Int} (ty : TypeId) (hs : VR m s cs) (h : appZ σ ei.size ei.bytes ei.zero s n K = some r) : Yield P B w0 m K r (Builtin.append_ #[t, u] ty #[cs, .int .i64 n]) w := by
  unfold appZ at h
  split at h
  · simp only [VR] at hs; subst hs
    have hun := TiOk.run_size ht
    split at h
    · rename_i hn; subst hn
      refine Yield.pure (v := .nils) (cv := .slice none 0 0) ?_ hR (by simp only [VR]) h
      have hw : IntKind.i64.wrap 0 = 0 := by decide
      simp [Builtin.append_, underlying, hu, huu, hun, asInt_run, hw, ht.run_info]
    · split at h
      · rename_i hn0 hc
        obtain ⟨c1, c2, c3⟩ := hc
        obtain ⟨q, rfl⟩ := Int.eq_ofNat_of_zero_le (show 0 ≤ n by omega)
        simp only [newK, Int.toNat_natCast] at h
        obtain ⟨N, hN⟩ : ∃ N, (Question.appendCap (0 + q) 0 el).cut (w.tape w.drawn (.appendCap (0 + q) 0 el)) = N := ⟨_, rfl⟩
        have hNle : 0 + q ≤ N := by rw [← hN]; simp only [Question.cut]; omega
        have hib : (q : Int) * i.bytes ≤ 70368744177664 := by rw [ht.bytes]; exact c2
        have hcapb : Builtin.nextslicecap (0 + q) 0 * i.bytes ≤ 281474976710656 := by
          have h1 : Builtin.nextslicecap (0 + q) 0 = 0 + q := by unfold Builtin.nextslicecap; rw [if_pos (by omega)]
          rw [h1, Nat.zero_add]
          have : ((q * i.bytes : Nat) : Int) ≤ 70368744177664 := by rw [Int.natCast_mul]; exact hib
          omega
        have hw : IntKind.i64.wrap (q : Int) = (q : Int) := wrap_i64 (by omega) (by omega)
        let us : List Value := (if q * ei.size = 0 then (#[] : Array Value) else Builtin.zeroCells z.cells q).toList
        have hrun : (Builtin.append_ #[t, u] ty #[.slice none 0 0, .int .i64 q]).run P w =
            .ok (.slice (some ⟨w.heap.size, 0, none⟩) (0 + q) N) { w with heap := w.heap.push (.cells (us.toArray ++ Builtin.zeroCells z.cells (N - (0 + q))) el (0, 0)), drawn := w.drawn + 1 } := by
          have c1 : ¬ (0 + q ≤ 0) := by omega
          have c2 : ¬ (((0 + q : Nat) : Int) > IntKind.i64.max) := by
            have : IntKind.i64.max = 9223372036854775807 := by decide
            omega
          have c3 : ¬ (Builtin.nextslicecap (0 + q) 0 * i.bytes > 2 ^ 48) := by omega
          have c4 : ¬ ((q : Int) < 0) := by omega
          have c5 : ¬ ((q : Int) * i.bytes > 2 ^ 48) := by omega
          have hforced : (Question.appendCap (0 + q) 0 el).forced = false := rfl
          simp only [Builtin.append_, List.getElem?_toArray, List.getElem?_cons_zero, List.getElem?_cons_succ, Sem.run_bind, underlying, run_program, Result.andThen_ok, hu, huu, Sem.run_pure, hun, if_true, asInt_run, hw, c4, c5, if_false, ht.run_info, Sem.run_ite, Int.toNat_natCast]
          simp only [c1, if_false, Sem.run_ite, Sem.run_bind, ht.run_info, Result.andThen_ok, c2, false_and, c3, run_choose, hforced, hN, run_askRoom, Bool.false_eq_true, Builtin.firstCells, Sem.run_pure, ht.run_zero, Bool.not_true, newRow, run_newObj, us]
          by_cases hz : q * ei.size = 0
          · simp [hz, ht.run_zero]; rfl
          · simp [hz, ht.run_zero]; rfl
        refine ⟨_, _, hrun, ?_⟩
        obtain ⟨u1, u2⟩ := aOfs_VRs (m := m) ht.zs
        have hzl := ht.z_len
        have hzn := ht.zlen
        have husz : us.length = q * ei.size := by
          simp only [us]
          split
          · rename_i e; simp [e]
          · simp [Builtin.zeroCells, hzl]
        obtain ⟨q1, q2⟩ := hR.row (sz := ei.size) (cap := N) (cs := rep q ei.zero) (c := us.toArray ++ Builtin.zeroCells z.cells (N - (0 + q))) el (w.drawn + 1)
          (by rw [rep_len, hzn]; exact Nat.mul_le_mul_right _ (by omega))
          (by simp only [Array.size_append, List.size_toArray, zeroCells_size, hzl, husz]; rw [← Nat.add_mul]; exact Nat.le_of_eq (by congr 1; omega))
          (fun j a hj => by
            have hlt : j < q * ei.size := by have := (List.getElem?_eq_some_iff.1 hj).1; rw [rep_len, hzn] at this; exact this
            have hpos : 0 < ei.size := by
              rcases Nat.eq_zero_or_pos ei.size with e | e
              · rw [e] at hlt; simp at hlt
              · exact e
            rw [rep_get _ (by omega) _ _ (by rw [hzn]; exact hlt), hzn] at hj
            obtain ⟨v, v1, v2⟩ := u1.get _ _ hj
            have hm : j % ei.size < z.cells.size := by rw [hzl]; exact Nat.mod_lt _ hpos
            refine ⟨v, ?_, v2, u2 v (List.mem_of_getElem? v1)⟩
            rw [Array.getElem?_append_left (by rw [List.size_toArray, husz]; exact hlt)]
            have hne : ¬ (q * ei.size = 0) := by omega
            simp only [us, if_neg hne, Array.toArray_toList, Builtin.zeroCells, Array.getElem?_map, Array.getElem?_range, hzl, hlt, if_true, Option.map_some]
            rw [getElem!_pos z.cells _ hm]
            rw [Array.getElem?_toList, Array.getElem?_eq_getElem hm] at v1
            exact v1)
        refine ⟨_, _, _, h, q1, q2, ?_⟩
        simp only [VR]
        exact ⟨_, N, ⟨w.heap.size, 0, none⟩, mset_self _ _, fun _ => by simp, fun k hk => (by cases hk), by omega, fun _ => by simp, by rw [Nat.zero_add]⟩
      · cases h
  · cases h

theorem bi_sound {b : Builtin} {c : Call} {ty : TypeId} {consts : Array Bool} (hR : R B w0 m σ w) (hpm : w0.pm = true → b = .len ∨ b = .max ∨ b = .min) (hE : EnvR C m e a) (h : biK C e b c.argTypes.toList c.args.toList σ K = some r) :
    ∃ cv w', (builtin b c.argTypes ty consts (c.args.map a.eval)).run C.P w = .ok (.value cv) w' ∧ OpPost B w0 m K r cv w' := by
  unfold biK at h
  split at h
  · -- len
    rename_i t x e1 e2
    rw [arr_one e1, arr_one e2]
    obtain ⟨ti, i, d, z, ht, h⟩ := Cx.ti_spec h
    obtain ⟨v, h, hv⟩ := ev_sound hE h
    split at h
    · rename_i el hk
      have hd := tk_slice (ht.tk ▸ hk); subst hd
      unfold lenV at h
      split at h
      · simp only [VR] at hv
        obtain ⟨p, cv, o, _, _, _, _, _, hv⟩ := hv
        exact ⟨_, w, by simp [builtin, Builtin.len_, underlying, ht.und, hv]; rfl, _, σ, m, h, Sub.refl m, hR, by simp [VR, goInt]⟩
      · simp only [VR] at hv
        exact ⟨_, w, by simp [builtin, Builtin.len_, underlying, ht.und, hv]; rfl, _, σ, m, h, Sub.refl m, hR, by simp [VR, goInt]⟩
      · cases h
    · rename_i hk
      have hd := tk_str (ht.tk ▸ hk); subst hd
      obtain ⟨s, e3, h⟩ := asK_spec h
      subst e3
      simp only [Kd.val, VR] at hv
      exact ⟨_, w, by simp [builtin, Builtin.len_, underlying, ht.und, hv]; rfl, _, σ, m, h, Sub.refl m, hR, by simp [VR, goInt]⟩
    · rename_i k el hk
      have hd := tk_map (ht.tk ▸ hk); subst hd
      unfold lenM at h
      split at h
      · rename_i l
        split at h
        · rename_i es hg
          obtain ⟨p, hp, ents, clock, g1, g2, g3, _⟩ := hR.obj l _ hg
          simp only [VR] at hv
          obtain ⟨p', hp', hv⟩ := hv
          rw [hp] at hp'; cases hp'
          exact ⟨_, w, by simp [builtin, Builtin.len_, underlying, ht.und, hv, getObj, Sem.run, g1]; rfl, _, σ, m, h, Sub.refl m, hR, by simp [VR, goInt, g2]⟩
        · cases h
      · simp only [VR] at hv
        exact ⟨_, w, by simp [builtin, Builtin.len_, underlying, ht.und, hv]; rfl, _, σ, m, h, Sub.refl m, hR, by simp [VR, goInt]⟩
      · cases h
    · cases h
  · -- append
    rename_i t u x y e1 e2
    rw [arr_two e1, arr_two e2]
    obtain ⟨ti, i, d, z, ht, h⟩ := Cx.ti_spec h
    obtain ⟨s, h, hs⟩ := ev_sound hE h
    obtain ⟨v, h, hv⟩ := ev_sound hE h
    split at h
    · rename_i el hk
      have hd := tk_slice (ht.tk ▸ hk); subst hd
      obtain ⟨ei, i2, d2, z2, ht2, h⟩ := Cx.ti_spec h
      obtain ⟨ui, i3, d3, z3, ht3, h⟩ := Cx.ti_spec h
      have done : Yield C.P B w0 m K r (Builtin.append_ #[t, u] ty #[a.eval x, a.eval y]) w → ∃ cv w', (builtin .append #[t, u] ty consts (Array.map a.eval #[x, y])).run C.P w = .ok (.value cv) w' ∧ OpPost B w0 m K r cv w' := fun ⟨cv, w', q1, q2⟩ =>
        ⟨cv, w', by simp [builtin, q1], q2⟩
      split at h
      · rename_i el2 hk2
        have hd := tk_slice (ht3.tk ▸ hk2); subst hd
        unfold appS at h
        obtain ⟨xs, n, us, h, hx⟩ := src_sound (P := C.P) hR hv h
        exact done (append_sound ht.und ht3.und (.inl ⟨_, rfl⟩) ht2 hR (pmf hpm (by simp)) ty hs hx h)
      · rename_i hk2
        have hd := tk_str (ht3.tk ▸ hk2); subst hd
        cases hb : (Nat.beq ei.size 1 && Nat.beq ei.bytes 1) with
        | false => rw [hb] at h; cases h
        | true =>
          rw [hb] at h
          simp only [cond_true] at h
          obtain ⟨hb1, hb2⟩ := Bool.and_eq_true_iff.1 hb
          have s1 := Nat.eq_of_beq_eq_true hb1
          have s2 := Nat.eq_of_beq_eq_true hb2
          obtain ⟨s', e3, h5⟩ := asK_spec h
          subst e3
          simp only [Kd.val, VR] at hv
          unfold appB at h5
          split at h5
          · rename_i hsz
            have hx : SrcOk C.P m w ei.size (a.eval y) (s'.data.toList.map fun b => .int .u8 b.toNat) s'.size (s'.data.toList.map fun b => .int .u8 b.toNat) := by
              refine ⟨fun w' => by simp only [hv, Builtin.lenOf, Sem.run_pure], fun w' _ => ?_, VRs.of_get (by simp only [List.length_map]) fun j x hx => ?_, fun u hu => ?_, by simp only [List.length_map, s1, Nat.mul_one]; rfl⟩
              · have hex : (s'.extract 0 s'.size).data = s'.data := by rw [ByteArray.data_extract]; exact Array.extract_size
                simp only [hv, Builtin.firstCells, hex, Sem.run_pure]
                congr 1
                apply Array.ext'
                simp only [Array.toList_map]
              · simp only [List.getElem?_map, Option.map_eq_some_iff] at hx
                obtain ⟨b, hb, rfl⟩ := hx
                exact ⟨_, by simp only [List.getElem?_map, hb, Option.map_some]; rfl, by simp [VR]⟩
              · obtain ⟨b, _, rfl⟩ := List.mem_map.1 hu
                rfl
            exact done (append_sound ht.und ht3.und (.inr rfl) ht2 hR (pmf hpm (by simp)) ty hs hx (by rw [s1, s2]; exact h5))
          · cases h5
      · rename_i kk hk2
        have hd := tk_int (ht3.tk ▸ hk2); subst hd
        obtain ⟨nn, e3, h5⟩ := asK_spec h
        subst e3
        have hv2 : a.eval y = .int .i64 nn := by simpa only [Kd.val, VR] using hv
        refine done ?_
        rw [hv2]
        exact appZ_sound ht.und ht3.und ht2 hR ty hs h5
      · cases h
    · cases h
  · -- clear
    rename_i t x e1 e2
    rw [arr_one e1, arr_one e2]
    obtain ⟨ti, i, d, z, ht, h⟩ := Cx.ti_spec h
    split at h
    · rename_i el hk
      have hd := tk_slice (ht.tk ▸ hk); subst hd
      obtain ⟨ei, i2, d2, z2, ht2, h⟩ := Cx.ti_spec h
      obtain ⟨v, h, hv⟩ := ev_sound hE h
      have hpf := pmf hpm (by simp)
      unfold clearK at h
      split at h
      · simp only [VR] at hv
        exact ⟨.tuple #[], w, by simp [builtin, Builtin.clear_, underlying, ht.und, hv], _, σ, m, h, Sub.refl m, hR, by simp only [VR, VRs]; exact ⟨[], rfl, rfl⟩⟩
      · rename_i l off len c
        simp only [VR] at hv
        obtain ⟨p, cv, o, p1, p2, p3, p4, p5, hv⟩ := hv
        split at h
        · rename_i hl; subst hl
          exact ⟨.tuple #[], w, by simp [builtin, Builtin.clear_, underlying, ht.und, hv], _, σ, m, h, Sub.refl m, hR, by simp only [VR, VRs]; exact ⟨[], rfl, rfl⟩⟩
        · rename_i hl
          split at h
          · rename_i md sz' cs hg
            split at h
            · rename_i hsz; subst hsz
              obtain ⟨p', hp', ca, e3, fr, g1, g2, g3, g4, g5, g6, g7⟩ := hR.obj l _ hg
              rw [p1] at hp'; cases hp'
              simp only [stC, hg] at h
              cases md with
              | ro => cases h
              | rx => cases h
              | rz => cases h
              | rw =>
                · dsimp only at h
                  split at h
                  · rename_i hfit
                    obtain ⟨u1, u2⟩ := aOfs_VRs (m := m) ht2.zs
                    have hzl := ht2.z_len
                    have hzn := ht2.zlen
                    have hvs : VRs m (rep len ei.zero) (Builtin.zeroCells z2.cells len).toList := by
                      refine VRs.of_get (by simp [Builtin.zeroCells, rep_len, hzl, hzn]) fun j y hj => ?_
                      have hlt : j < len * ei.size := by have := (List.getElem?_eq_some_iff.1 hj).1; rw [rep_len, hzn] at this; exact this
                      have hpos : 0 < ei.size := by
                        rcases Nat.eq_zero_or_pos ei.size with e | e
                        · rw [e] at hlt; simp at hlt
                        · exact e
                      rw [rep_get _ (by omega) _ _ (by rw [hzn]; exact hlt), hzn] at hj
                      obtain ⟨v, v1, v2⟩ := u1.get _ _ hj
                      refine ⟨v, ?_, v2⟩
                      have hm : j % ei.size < z2.cells.size := by rw [hzl]; exact Nat.mod_lt _ hpos
                      rw [Array.getElem?_toList]
                      simp only [Builtin.zeroCells, Array.getElem?_map, Array.getElem?_range, hzl, hlt, if_true, Option.map_some]
                      rw [getElem!_pos z2.cells _ hm]
                      rw [Array.getElem?_toList, Array.getElem?_eq_getElem hm] at v1
                      exact v1
                    have hone : ∀ u ∈ (Builtin.zeroCells z2.cells len).toList, u.oneCell' = true := fun u hu => by
                      rw [Array.mem_toList_iff] at hu
                      simp only [Builtin.zeroCells, Array.mem_map, Array.mem_range] at hu
                      obtain ⟨j, hj, rfl⟩ := hu
                      have hpos : 0 < z2.cells.size := by
                        rcases Nat.eq_zero_or_pos z2.cells.size with e | e
                        · rw [e] at hj; simp at hj
                        · exact e
                      have hm := Nat.mod_lt j hpos
                      rw [getElem!_pos z2.cells _ hm]
                      exact u2 _ (by rw [Array.mem_toList_iff]; exact Array.getElem_mem hm)
                    obtain ⟨w', q1, q2⟩ := R.store C.P hR hpf hg p1 hvs hone hfit
                    have ho : o = ⟨p.blk, p.start + off * ei.size, none⟩ := by rw [p5 (by omega), g3]
                    have hln : ¬ (len = 0) := hl
                    obtain ⟨len', rfl⟩ : ∃ k, len = k + 1 := ⟨len - 1, by omega⟩
                    refine ⟨.tuple #[], w', ?_, _, _, m, h, Sub.refl m, q2, by simp only [VR, VRs]; exact ⟨[], rfl, rfl⟩⟩
                    simp [builtin, Builtin.clear_, underlying, ht.und, hv, ht2.run_zero, ho, q1]
                  · cases h
            · cases h
          · cases h
      · cases h
    · cases h
  · -- cap
    rename_i t x e1 e2
    rw [arr_one e1, arr_one e2]
    obtain ⟨ti, i, d, z, ht, h⟩ := Cx.ti_spec h
    split at h
    · rename_i el hk
      have hd := tk_slice (ht.tk ▸ hk); subst hd
      obtain ⟨v, h, hv⟩ := ev_sound hE h
      unfold capV at h
      split at h
      · simp only [VR] at hv
        exact ⟨_, w, by simp [builtin, Builtin.cap_, underlying, ht.und, hv]; rfl, _, σ, m, h, Sub.refl m, hR, by simp [VR, goInt]⟩
      · simp only [VR] at hv
        obtain ⟨p, cv, o, _, _, hc, _, _, hv⟩ := hv
        have := (hc _ rfl).1
        subst this
        exact ⟨_, w, by simp [builtin, Builtin.cap_, underlying, ht.und, hv]; rfl, _, σ, m, h, Sub.refl m, hR, by simp [VR, goInt]⟩
      · cases h
    · cases h
  · -- delete
    rename_i t u x y e1 e2
    rw [arr_two e1, arr_two e2]
    obtain ⟨ti, i, d, z, ht, h⟩ := Cx.ti_spec h
    split at h
    · rename_i kt et hk
      have hd := tk_map (ht.tk ▸ hk); subst hd
      obtain ⟨ki, i2, d2, z2, ht2, h⟩ := Cx.ti_spec h
      obtain ⟨v, h, hv⟩ := ev_sound hE h
      obtain ⟨kv, h, hkv⟩ := ev_sound hE h
      obtain ⟨k, n, q1, q2, h'⟩ := keyK_spec h
      clear h
      have hd2 := tk_int (ht2.tk ▸ q1); subst hd2
      subst q2
      simp only [VR] at hkv
      obtain ⟨σ', w', r1, r2, r3⟩ := mdel_sound (u := u) (ty := ty) ht.und ht2.und hR (pmf hpm (by simp)) hv h'
      exact ⟨_, w', by simp [builtin, hkv, r1]; rfl, _, σ', m, r3, Sub.refl m, r2, by simp only [VR, VRs]; exact ⟨[], rfl, rfl⟩⟩
    · cases h
  · -- max
    rename_i x y e2
    rw [arr_two e2]
    obtain ⟨v, h, hv⟩ := ev_sound hE h
    obtain ⟨u, h, hu⟩ := ev_sound hE h
    split at h
    · simp only [VR] at hv hu
      exact ⟨_, w, by simp [builtin, Builtin.max_, Builtin.max2, hv, hu]; rfl, _, σ, m, h, Sub.refl m, hR, by simp [VR]⟩
    · cases h
  · -- min
    rename_i x y e2
    rw [arr_two e2]
    obtain ⟨v, h, hv⟩ := ev_sound hE h
    obtain ⟨u, h, hu⟩ := ev_sound hE h
    split at h
    · simp only [VR] at hv hu
      exact ⟨_, w, by simp [builtin, Builtin.min_, Builtin.min2, hv, hu]; rfl, _, σ, m, h, Sub.refl m, hR, by simp [VR]⟩
    · cases h
  · cases h

theorem allTi_spec {X : Option Rt} : ∀ {fs : List (Nat × TypeId)}, allTi C fs X = some r → X = some r ∧ ∀ f ∈ fs, ∃ ti i d z, TiOk C.P f.2 ti i d z
  | [], h => ⟨h, by simp⟩
  | f :: fs, h => by
    simp only [allTi] at h
    obtain ⟨ti, i, d, z, ht, h⟩ := Cx.ti_spec h
    obtain ⟨h1, h2⟩ := allTi_spec h
    exact ⟨h1, fun g hg => by
      rcases List.mem_cons.1 hg with e | e
      · subst e; exact ⟨ti, i, d, z, ht⟩
      · exact h2 g e⟩

theorem sizes_run {P : Program} (w : World) : ∀ (F : List Field), (∀ f ∈ F, ∃ ti i d z, TiOk P f.type ti i d z) →
    (F.mapM fun f => do pure (f.offset, ← sizeOf f.type) : Sem (List (Nat × Nat))).run P w = .ok (F.map fun f => (f.offset, P.cellsOf f.type)) w
  | [], _ => by simp
  | f :: F, h => by
    obtain ⟨ti, i, d, z, ht⟩ := h f (by simp)
    have ih := sizes_run w F (fun g hg => h g (by simp [hg]))
    have hc : P.cellsOf f.type = ti.size := by simp [Program.cellsOf, ht.info, ht.size]
    simp only [List.mapM_cons, Sem.run_bind, ht.run_size, Result.andThen_ok, Sem.run_pure, ih, List.map_cons, hc]

theorem callFunc_run {P : Program} {NG : Nat} {f : FuncId} {s : Spec} (h : SpecOk P NG f s) (args : Array Value) (w : World) : (callFunc f args).run P w = .ok (.enter f args) w := by
  obtain ⟨fn, h1, h2, h3⟩ := h.enters
  simp only [callFunc, Sem.run_bind, run_program, Result.andThen_ok, h1, h2, h3, Bool.false_eq_true, if_false, Sem.run_pure, Sem.run_ite]

theorem foldl_size (off : Nat) : ∀ (l : List (Value × Nat)) (us : Array Value), (l.foldl (fun (cs : Array Value) (x : Value × Nat) => cs.setIfInBounds (off + x.2) x.1) us).size = us.size
  | [], us => rfl
  | x :: l, us => by simp only [List.foldl_cons]; rw [foldl_size off l]; simp

theorem fill_size (pl : Nat → Option (Nat × Nat)) : ∀ (ps : List (Nat × Value)) (us us' : Array Value), Instr.fill pl us ps = some us' → us'.size = us.size
  | [], us, us', h => by simp [Instr.fill] at h; rw [h]
  | (i, v) :: ps, us, us', h => by
    simp only [Instr.fill] at h
    split at h
    · cases h
    · split at h
      · cases h
      · rw [fill_size pl ps _ us' h, ← Array.foldl_toList]
        exact foldl_size _ _ _

theorem call_wp (hC : ∀ f s, C.calls f = some s → SpecOk C.P C.NG f s) (hR : R B w0 m σ w) (hE : EnvR C m e a) {id : FuncId} (hpm : w0.pm = true → isPur (C.calls id) = true) {args : List AVal} {cargs : List Value} (hargs : VRs m args cargs)
    (hx : (execOp a.eval o).run C.P w = (callFunc id cargs.toArray).run C.P w) (h : doCall (C.calls id) args σ K = some r)
    (hn : ∀ cv w', OpPost B w0 m K r cv w' → next (a.put o.dst cv) w') : o.wp C.P a w next Q := by
  cases hs : C.calls id with
  | none => rw [hs] at h; simp only [doCall] at h; cases h
  | some s =>
    rw [hs, doCall_run] at h
    have ok := hC id s hs
    rw [Oper.wp, hx, callFunc_run ok]
    cases hg : s.run args σ with
    | none => rw [hg] at h; cases h
    | some x =>
      rw [hg] at h
      simp only [Option.bind_some] at h
      refine (ok.calls B w0 m σ w args cargs x.1 x.2 (by rw [hg]) hR (by rw [← hs]; exact hpm) hE.glob hargs).mono ?_
      rintro e1 w1 ⟨m', cv, rfl, S, hR', hv⟩
      exact hn cv w1 ⟨_, _, m', h, S, hR', hv⟩

theorem zeroK_spec {t : TypeId} {ti : TI} {i : TypeInfo} {d : TypeDesc} {z : Value} (ht : TiOk C.P t ti i d z) {K' : AVal → Option Rt} (h : zeroK ti K' = some r) : ∃ a, K' a = some r ∧ VR m a z := by
  unfold zeroK at h
  cases hag : isAg ti.tk with
  | true => rw [hag] at h; cases h
  | false =>
    rw [hag] at h
    simp only [cond_false] at h
    split at h
    · rename_i zz hz
      obtain ⟨u1, u2⟩ := aOfs_VRs (m := m) ht.zs
      rw [hz] at u1
      obtain ⟨vz, h1, h2⟩ := u1.get 0 zz rfl
      rw [cells_one (ht.one hag)] at h1
      simp at h1; subst h1
      exact ⟨zz, h, h2⟩
    · cases h

theorem coeK_spec {t : TypeId} {v : AVal} {K : AVal → Option Rt} (h : coeK C t v K = some r) : K v = some r := by
  unfold coeK at h
  split at h
  · rename_i ti ht
    cases hb : isAg ti.tk with
    | true => rw [hb] at h; exact h
    | false =>
      rw [hb] at h
      simp only [cond_false] at h
      obtain ⟨x, h1, h2⟩ := asK_spec h
      rw [← h1]; exact h2
  · exact h

theorem mup_sound {t : TypeId} {x y u : Operand} (hR : R B w0 m σ w) (hpm : w0.pm = false) (hE : EnvR C m e a) (h : mupK C e t x y u σ K = some r) :
    ∃ w', (Instr.mapUpdate t (a.eval x) (a.eval y) (a.eval u)).run C.P w = .ok () w' ∧ OpPost B w0 m K r undef w' := by
  unfold mupK at h
  obtain ⟨ti, i, d, z, ht, h⟩ := Cx.ti_spec h
  split at h
  · rename_i kt et hk
    have hd := tk_map (ht.tk ▸ hk); subst hd
    obtain ⟨ki, i2, d2, z2, ht2, h⟩ := Cx.ti_spec h
    obtain ⟨v, h, hv⟩ := ev_sound hE h
    obtain ⟨kv, h, hkv⟩ := ev_sound hE h
    obtain ⟨uv, h, huv⟩ := ev_sound hE h
    obtain ⟨k, n, e1, e2, h'⟩ := keyK_spec h
    clear h
    have hd2 := tk_int (ht2.tk ▸ e1); subst hd2
    subst e2
    simp only [VR] at hkv
    obtain ⟨σ', w', q1, q2, q3⟩ := mput_sound ht.und ht2.und hR hpm hv huv h'
    exact ⟨w', by rw [hkv]; exact q1, .tup [], σ', m, q3, Sub.refl m, q2, by simp only [VR]; exact ⟨[], rfl, by simp [VRs]⟩⟩
  · cases h

theorem dop_sound (hC : ∀ f s, C.calls f = some s → SpecOk C.P C.NG f s) (hR : R B w0 m σ w) (hpm : w0.pm = true → pureOp C.calls o = true) (hE : EnvR C m e a) (h : dop C e o σ K = some r)
    (hn : ∀ cv w', OpPost B w0 m K r cv w' → next (a.put o.dst cv) w') : o.wp C.P a w next Q := by
  have value : ∀ (v : AVal) (cv : Value), (execOp a.eval o).run C.P w = .ok (.value cv) w → K v σ = some r → VR m v cv → o.wp C.P a w next Q := fun v cv h1 h2 h3 =>
    wp_value h1 (hn cv w ⟨v, σ, m, h2, Sub.refl m, hR, h3⟩)
  unfold dop at h
  split at h
  · -- move
    rename_i x hop
    obtain ⟨v, h1, h2⟩ := ev_sound hE h
    exact value v _ (by simp [execOp, hop]) h1 h2
  · -- assign
    rename_i x hop
    obtain ⟨v, h1, h2⟩ := ev_sound hE h
    exact value v _ (by simp [execOp, hop]) h1 h2
  · -- pick
    rename_i c x y hop
    obtain ⟨v, h, h2⟩ := ev_sound hE h
    obtain ⟨b, e1, h⟩ := asK_spec h
    subst e1
    simp only [Kd.val, VR] at h2
    cases b with
    | true =>
      have h : ev C e x (fun v => K v σ) = some r := h
      obtain ⟨v, h1, h3⟩ := ev_sound hE h
      exact value v _ (by simp [execOp, hop, h2, asBool]) h1 h3
    | false =>
      have h : ev C e y (fun v => K v σ) = some r := h
      obtain ⟨v, h1, h3⟩ := ev_sound hE h
      exact value v _ (by simp [execOp, hop, h2, asBool]) h1 h3
  · -- alloc
    rename_i t hop
    obtain ⟨ti, i, d, z, ht, h⟩ := Cx.ti_spec h
    simp only [newK] at h
    obtain ⟨u1, u2⟩ := aOfs_VRs (m := m) ht.zs
    obtain ⟨q1, q2⟩ := hR.row (sz := ti.size) (cap := 1) (cs := ti.zero) (c := z.cells) t w.drawn (by rw [ht.zlen]; omega) (by rw [ht.z_len]; omega) (fun j x hj => by
      obtain ⟨v, v1, v2⟩ := u1.get _ _ hj
      exact ⟨v, by simpa using v1, v2, u2 v (List.mem_of_getElem? v1)⟩)
    refine wp_value (cv := .pointer (some ⟨w.heap.size, 0, none⟩)) (w' := { w with heap := w.heap.push (.cells z.cells t (0, 0)) }) ?_ (hn _ _ ⟨_, _, _, h, q1, q2, ?_⟩)
    · simp [execOp, hop, Instr.alloc, ht.run_zero, newVar, newRow]
    · simp only [VR]; exact ⟨_, mset_self _ _, rfl⟩
  · -- box
    rename_i t x hop
    obtain ⟨ti, i, d, z, ht, h⟩ := Cx.ti_spec h
    obtain ⟨v, h, hv⟩ := ev_sound hE h
    obtain ⟨vs, h, c1, c2, c3⟩ := cellsK_sound hv h
    simp only [newK] at h
    have hl := c1.length
    obtain ⟨q1, q2⟩ := hR.row (sz := ti.size) (cap := 1) (cs := vs) (c := (a.eval x).cells) t w.drawn (by omega) (by simp at hl; omega) (fun j x hj => by
      obtain ⟨v, v1, v2⟩ := c1.get _ _ hj
      exact ⟨v, by simpa using v1, v2, c2 v (List.mem_of_getElem? v1)⟩)
    refine wp_value (cv := .pointer (some ⟨w.heap.size, 0, none⟩)) (w' := { w with heap := w.heap.push (.cells (a.eval x).cells t (0, 0)) }) ?_ (hn _ _ ⟨_, _, _, h, q1, q2, ?_⟩)
    · simp [execOp, hop, Instr.box, newVar, newRow]
    · simp only [VR]; exact ⟨_, mset_self _ _, rfl⟩
  · -- build
    rename_i t ps hop
    obtain ⟨ti, i, d, z, ht, h⟩ := Cx.ti_spec h
    obtain ⟨u1, u2⟩ := aOfs_VRs (m := m) ht.zs
    have hps : (ps.map fun (x : Nat × Operand) => (x.1, a.eval x.2)).toList = ps.toList.map fun x => (x.1, a.eval x.2) := by simp
    split at h
    · rename_i fs hk
      obtain ⟨F, hd, hfs⟩ := tk_strct (ht.tk ▸ hk)
      subst hd
      obtain ⟨h, hall⟩ := allTi_spec h
      have hall' : ∀ f ∈ F.toList, ∃ ti i d z, TiOk C.P f.type ti i d z := fun f hf => by
        have := hall (f.offset, f.type) (by rw [hfs]; exact List.mem_map.2 ⟨f, hf, rfl⟩)
        exact this
      obtain ⟨cs', us', q1, q2, q3, q4⟩ := fill_sound hE ((F.map fun f => (f.offset, C.P.cellsOf f.type))[·]?) (fs[·]?) (fun i off t hi => by
        subst hfs
        simp only [List.getElem?_map, Option.map_eq_some_iff] at hi
        obtain ⟨f, hf, e1⟩ := hi
        cases e1
        refine ⟨C.P.cellsOf f.type, fun ti i d z ht => by simp [Program.cellsOf, ht.info, ht.size], ?_⟩
        rw [Array.getElem?_toList] at hf
        simp [hf]) ps.toList ti.zero z.cells u1 u2 h
      refine value _ (.agg us') ?_ q2 (by simp only [VR]; exact ⟨us'.toList, by simp, q3, q4⟩)
      have hrun := sizes_run (P := C.P) w F.toList hall'
      simp only [execOp, hop, Instr.build, Sem.run_bind, ht.run_zero, Result.andThen_ok, ht.run_und, Array.mapM_eq_mapM_toList, Sem.run_map, hrun]
      have he : (List.map (fun f => (f.offset, C.P.cellsOf f.type)) F.toList).toArray = F.map fun f => (f.offset, C.P.cellsOf f.type) := by apply Array.ext'; simp
      rw [he, hps, q1]
      rfl
    · rename_i n el hk
      have hd := tk_arr (ht.tk ▸ hk); subst hd
      obtain ⟨ei, i2, d2, z2, ht2, h⟩ := Cx.ti_spec h
      obtain ⟨cs', us', q1, q2, q3, q4⟩ := fill_sound hE (fun i => some (i * ei.size, ei.size)) (fun i => some (i * ei.size, el)) (fun i off t hi => by
        cases hi
        exact ⟨ei.size, fun ti i d z ht => by have := ht.info.symm.trans ht2.info; cases this; rw [← ht.size, ← ht2.size], rfl⟩) ps.toList ti.zero z.cells u1 u2 h
      refine value _ (.agg us') ?_ q2 (by simp only [VR]; exact ⟨us'.toList, by simp, q3, q4⟩)
      simp only [execOp, hop, Instr.build, Sem.run_bind, ht.run_zero, Result.andThen_ok, ht.run_und, ht2.run_size]
      rw [hps, q1]
      rfl
    · cases h
  · -- buildSlice
    rename_i t len ps hop
    obtain ⟨ti, i, d, z, ht, h⟩ := Cx.ti_spec h
    have hps : (ps.map fun (x : Nat × Operand) => (x.1, a.eval x.2)).toList = ps.toList.map fun x => (x.1, a.eval x.2) := by simp
    split at h
    · rename_i el hk
      have hd := tk_slice (ht.tk ▸ hk); subst hd
      obtain ⟨ei, i2, d2, z2, ht2, h⟩ := Cx.ti_spec h
      cases hb : Nat.ble (len * ei.size) 16777216 with
      | false => rw [hb] at h; cases h
      | true =>
        rw [hb] at h
        simp only [cond_true] at h
        have hle : len * ei.size ≤ 16777216 := Nat.le_of_ble_eq_true hb
        obtain ⟨u1, u2⟩ := aOfs_VRs (m := m) ht2.zs
        let zz : Array Value := (Array.range (len * ei.size)).map ((if len * ei.size = 0 then #[] else z2.cells)[· % (if len * ei.size = 0 then #[] else z2.cells).size]!)
        have hrep : VRs m (rep len ei.zero) zz.toList ∧ ∀ u ∈ zz.toList, u.oneCell' = true := by
          have hget : ∀ (j : Nat) (x : AVal), (rep len ei.zero)[j]? = some x → ∃ v, zz.toList[j]? = some v ∧ VR m x v ∧ v.oneCell' = true := fun j x hj => by
            have hlt : j < len * ei.size := by
              have := (List.getElem?_eq_some_iff.1 hj).1
              rw [rep_len, ht2.zlen] at this; exact this
            have hpos : 0 < ei.size := by
              rcases Nat.eq_zero_or_pos ei.size with e | e
              · rw [e] at hlt; simp at hlt
              · exact e
            rw [rep_get _ (by rw [ht2.zlen]; exact hpos) _ _ (by rw [ht2.zlen]; exact hlt), ht2.zlen] at hj
            obtain ⟨v, v1, v2⟩ := u1.get _ _ hj
            refine ⟨v, ?_, v2, u2 v (List.mem_of_getElem? v1)⟩
            have hm : j % ei.size < z2.cells.size := by rw [ht2.z_len]; exact Nat.mod_lt _ hpos
            rw [Array.getElem?_toList]
            simp only [zz]
            rw [if_neg (by omega)]
            simp only [Array.getElem?_map, Array.getElem?_range, hlt, if_true, Option.map_some, ht2.z_len]
            rw [getElem!_pos z2.cells _ hm]
            rw [Array.getElem?_toList, Array.getElem?_eq_getElem hm] at v1
            exact v1
          refine ⟨VRs.of_get (by simp [zz, rep_len, ht2.zlen]) fun j x hj => let ⟨v, v1, v2, _⟩ := hget j x hj; ⟨v, v1, v2⟩, fun u hu => ?_⟩
          obtain ⟨j, hj, rfl⟩ := List.getElem_of_mem hu
          have hj2 : j < (rep len ei.zero).length := by simp [zz] at hj; rw [rep_len, ht2.zlen]; exact hj
          obtain ⟨v, v1, v2, v3⟩ := hget j _ (List.getElem?_eq_getElem hj2)
          rw [List.getElem?_eq_getElem hj] at v1
          cases v1; exact v3
        obtain ⟨cs', us', q1, q2, q3, q4⟩ := fill_sound hE (fun i => some (i * ei.size, ei.size)) (fun i => some (i * ei.size, el)) (fun i off t hi => by
          cases hi
          exact ⟨ei.size, fun ti i d z ht => by have := ht.info.symm.trans ht2.info; cases this; rw [← ht.size, ← ht2.size], rfl⟩) ps.toList (rep len ei.zero) zz hrep.1 hrep.2 h
        simp only [newK] at q2
        have hl := q3.length
        have hfl : us'.size = len * ei.size := by
          have hz : zz.size = len * ei.size := by simp [zz]
          rw [← hz]; exact fill_size _ _ _ _ q1
        obtain ⟨k1, k2⟩ := hR.row (sz := ei.size) (cap := len) (cs := cs') (c := us') el w.drawn (by simp at hl; omega) (by omega) (fun j x hj => by
          obtain ⟨v, v1, v2⟩ := q3.get _ _ hj
          exact ⟨v, by simpa using v1, v2, q4 v (List.mem_of_getElem? v1)⟩)
        refine wp_value (cv := .slice (some ⟨w.heap.size, 0, none⟩) len len) (w' := { w with heap := w.heap.push (.cells us' el (0, 0)) }) ?_ (hn _ _ ⟨_, _, _, q2, k1, k2, ?_⟩)
        · have hbig : ¬ (len * ei.size > 2 ^ 24) := by omega
          simp only [execOp, hop, Instr.buildSlice, Sem.run_bind, ht.run_und, Result.andThen_ok, ht2.run_size, hbig, if_false, Sem.run_ite, Sem.run_pure, ht2.run_zero, hps]
          by_cases hz : len * ei.size = 0
          · simp only [zz, if_pos hz] at q1
            simp only [if_pos hz, Sem.run_bind, Sem.run_pure, Result.andThen_ok]
            rw [q1]
            simp [newRow]
          · simp only [zz, if_neg hz] at q1
            simp only [if_neg hz, Sem.run_bind, Sem.run_pure, Result.andThen_ok, ht2.run_zero]
            rw [q1]
            simp [newRow]
        · simp only [VR]; exact ⟨_, len, _, mset_self _ _, fun _ => by simp, fun k hk => (by cases hk), Nat.le_refl _, fun _ => by simp, rfl⟩
    · cases h
  · -- load
    rename_i t x hop
    obtain ⟨ti, i, d, z, ht, h⟩ := Cx.ti_spec h
    obtain ⟨v, h, hv⟩ := ev_sound hE h
    exact wp_yield (by simp [execOp, hop]) (load_sound ht hR hv h) hn
  · -- store
    rename_i t x y hop
    obtain ⟨ti, i, d, z, ht, h⟩ := Cx.ti_spec h
    obtain ⟨v, h, hv⟩ := ev_sound hE h
    obtain ⟨u, h, hu⟩ := ev_sound hE h
    obtain ⟨w', σ', h1, h2, h3⟩ := store_sound ht hR (pmf hpm (by simp [pureOp, hop])) hv hu h
    rw [Oper.wp, show (execOp a.eval o).run C.P w = .ok .skip w' by simp [execOp, hop, h1], Oper.upon]
    exact hn undef w' ⟨.tup [], σ', m, h3, Sub.refl m, h2, by simp only [VR]; exact ⟨[], rfl, by simp [VRs]⟩⟩
  · -- nilCheck
    rename_i x hop
    obtain ⟨v, h, hv⟩ := ev_sound hE h
    have hv' := hv
    unfold nilck at h
    split at h
    · simp only [VR] at hv; obtain ⟨p, _, e1⟩ := hv
      exact value _ _ (by simp [execOp, hop, e1]) h hv'
    · simp only [VR] at hv; obtain ⟨p, e1, _⟩ := hv
      exact value _ _ (by simp [execOp, hop, e1]) h hv'
    · simp only [VR] at hv; obtain ⟨p, q, e1, _⟩ := hv
      exact value _ _ (by simp [execOp, hop, e1]) h hv'
    · cases h
  · -- binOp
    rename_i op t x y ty hop
    obtain ⟨ti, i, d, z, ht, h⟩ := Cx.ti_spec h
    obtain ⟨v, h, hv⟩ := ev_sound hE h
    obtain ⟨u, h, hu⟩ := ev_sound hE h
    obtain ⟨x1, cv, h1, h2, h3⟩ := binK_sound ht hR hv hu h
    exact value x1 cv (by simp only [execOp, hop, Sem.run_bind] at h1 ⊢; rw [h1]; rfl) h2 h3
  · -- unOp
    rename_i op t x hop
    obtain ⟨v, h, hv⟩ := ev_sound hE h
    split at h
    · simp only [VR] at hv
      exact value _ _ (by simp [execOp, hop, hv, Op.unary, Op.intArith]; rfl) h (by simp [VR])
    · simp only [VR] at hv
      exact value _ _ (by simp [execOp, hop, hv, Op.unary]; rfl) h (by simp [VR])
    · cases h
  · -- convert
    rename_i t1 t x hop
    obtain ⟨ti0, i0, d0, z0, ht0, h⟩ := Cx.ti_spec h
    obtain ⟨ti, i, d, z, ht, h⟩ := Cx.ti_spec h
    obtain ⟨v, h, hv⟩ := ev_sound hE h
    split at h
    · rename_i k k' n hk
      have hd := tk_int (ht.tk ▸ hk); subst hd
      simp only [VR] at hv
      exact value _ _ (by simp [execOp, hop, hv, convert, ht0.run_und, ht.run_und, Conv.intToInt]; rfl) h (by simp [VR])
    · cases h
  · -- makeInterface
    rename_i t x hop
    obtain ⟨ti, i, d, z, ht, h⟩ := Cx.ti_spec h
    obtain ⟨v, h, hv⟩ := ev_sound hE h
    split at h
    · cases h
    · rename_i hk
      refine value _ (.iface t (a.eval x)) ?_ h (by simp only [VR]; exact ⟨_, rfl, hv⟩)
      have hni : ∀ ms, d ≠ .interface ms := fun ms e => by subst e; exact hk _ (by rw [ht.tk]; rfl)
      simp only [execOp, hop, Instr.makeInterface, Sem.run_bind, ht.run_und, Result.andThen_ok]
      cases d <;> first | exact absurd rfl (hni _) | rfl
  · -- makeFunc
    rename_i f fi ca hop
    obtain ⟨vs, h, hvs⟩ := evs_sound hE h
    obtain ⟨us, h, hus⟩ := evs_sound hE h
    refine value _ (.func f (fi.map a.eval) (ca.map a.eval)) (by simp [execOp, hop, Instr.makeFunc]) h ?_
    simp only [VR]
    exact ⟨_, _, by congr 1 <;> (apply Array.ext'; simp), hvs, hus⟩
  · -- makeSlice
    rename_i t x y hop
    obtain ⟨ti, i, d, z, ht, h⟩ := Cx.ti_spec h
    split at h
    · rename_i el hk
      have hd := tk_slice (ht.tk ▸ hk); subst hd
      obtain ⟨ei, i2, d2, z2, ht2, h⟩ := Cx.ti_spec h
      obtain ⟨v, h, hv⟩ := ev_sound hE h
      obtain ⟨u, h, hu⟩ := ev_sound hE h
      obtain ⟨k1, n1, e1, h⟩ := intK_sound hv h
      obtain ⟨k2, n2, e2, h⟩ := intK_sound hu h
      exact wp_yield (s := Instr.makeSlice t (.int k1 n1) (.int k2 n2)) (by simp [execOp, hop, e1, e2]) (makeSlice_sound ht.und ht2 hR h) hn
    · cases h
  · -- slice
    rename_i t x lo hi mx hop
    obtain ⟨ti, i, d, z, ht, h⟩ := Cx.ti_spec h
    obtain ⟨v, h, hv⟩ := ev_sound hE h
    obtain ⟨n1, h, o1⟩ := optK_sound hE h
    obtain ⟨n2, h, o2⟩ := optK_sound hE h
    obtain ⟨n3, h, o3⟩ := optK_sound hE h
    split at h
    · rename_i el hk
      have hd := tk_slice (ht.tk ▸ hk); subst hd
      obtain ⟨ei, i2, d2, z2, ht2, h⟩ := Cx.ti_spec h
      exact wp_yield (by simp [execOp, hop]) (slice_sound ht.und ht2 hR hv o1 o2 o3 h) hn
    · rename_i hk
      have hd := tk_str (ht.tk ▸ hk); subst hd
      split at h
      · obtain ⟨s, e1, h5⟩ := asK_spec h
        subst e1
        simp only [Kd.val, VR] at hv
        unfold slB at h5
        split at h5
        · rename_i hc
          simp only [optV] at o3
          have hb := sliceBounds_run (P := C.P) (b := false) (len := ByteArray.size s) (cap := ByteArray.size s) (mx := none) (cm := none) o1 o2 rfl (Nat.le_refl _) hc.1 hc.2.1 (by simpa using hc.2.2) (by simp) rfl w
          refine value _ (.string (ByteArray.extract s (n1.getD 0).toNat (n2.getD (ByteArray.size s)).toNat)) ?_ h5 (by simp [VR])
          simp only [execOp, hop, Sem.run_bind, Instr.sliceAt, ht.run_und, Result.andThen_ok, Instr.slice, hv, o3, Option.isSome_none, Bool.false_eq_true, if_false, Sem.run_pure, hb]
        · cases h5
      · cases h
    · cases h
  · -- fieldAddr
    rename_i t x f hop
    obtain ⟨ti, i, d, z, ht, h⟩ := Cx.ti_spec h
    split at h
    · rename_i fs hk
      obtain ⟨F, hd, hfs⟩ := tk_strct (ht.tk ▸ hk)
      subst hd
      split at h
      · rename_i off u hf
        subst hfs
        simp only [List.getElem?_map, Option.map_eq_some_iff] at hf
        obtain ⟨g, hg, e1⟩ := hf
        cases e1
        rw [Array.getElem?_toList] at hg
        obtain ⟨ui, i2, d2, z2, ht2, h⟩ := Cx.ti_spec h
        cases hb : Nat.beq ui.size 0 with
        | true => rw [hb] at h; cases h
        | false =>
          rw [hb] at h
          simp only [cond_false] at h
          have hsz : ui.size ≠ 0 := fun e => by rw [e] at hb; cases hb
          obtain ⟨v, h, hv⟩ := ev_sound hE h
          unfold fld at h
          split at h
          · simp only [VR] at hv
            obtain ⟨p, hp, hv⟩ := hv
            refine value _ _ ?_ h (by simp only [VR]; exact ⟨p, hp, rfl⟩)
            simp only [execOp, hop, Sem.run_bind, Instr.fieldAt, ht.run_und, Result.andThen_ok, hg, hv, Instr.sureAddr, Sem.run_pure, fieldPlace, ht2.run_size, Sem.run_ite, hsz, if_false, addr_add, Nat.add_assoc]
          · cases h
      · cases h
    · cases h
  · -- field
    rename_i t x f hop
    obtain ⟨ti, i, d, z, ht, h⟩ := Cx.ti_spec h
    split at h
    · rename_i fs hk
      obtain ⟨F, hd, hfs⟩ := tk_strct (ht.tk ▸ hk)
      subst hd
      split at h
      · rename_i off u hf
        subst hfs
        simp only [List.getElem?_map, Option.map_eq_some_iff] at hf
        obtain ⟨g, hg, e1⟩ := hf
        cases e1
        rw [Array.getElem?_toList] at hg
        obtain ⟨ui, i2, d2, z2, ht2, h⟩ := Cx.ti_spec h
        obtain ⟨v, h, hv⟩ := ev_sound hE h
        -- the value is an aggregate
        have hag : ∃ cs, a.eval x = .agg cs := by
          have : ∃ as, v = .agg as := by
            unfold partK at h
            cases hb : isAg ui.tk with
            | true =>
              rw [hb] at h; simp only [cond_true, agG] at h
              split at h
              · exact ⟨_, rfl⟩
              · cases h
            | false =>
              rw [hb] at h; simp only [cond_false, agS] at h
              split at h
              · exact ⟨_, rfl⟩
              · cases h
          obtain ⟨as, rfl⟩ := this
          simp only [VR] at hv
          obtain ⟨vs, e1, _⟩ := hv
          exact ⟨_, e1⟩
        obtain ⟨cs, hcs⟩ := hag
        rw [hcs] at hv
        obtain ⟨y, cy, h1, h2, h3⟩ := part_sound (w := w) ht2 hv h
        refine value y cy ?_ h2 h3
        simp only [execOp, hop, Sem.run_bind, Instr.field, ht.run_und, Result.andThen_ok, hg, hcs, asAgg, Sem.run_pure, h1]
      · cases h
    · cases h
  · -- indexAddr
    rename_i t x y hop
    obtain ⟨ti, i, d, z, ht, h⟩ := Cx.ti_spec h
    obtain ⟨v, h, hv⟩ := ev_sound hE h
    obtain ⟨u, h, hu⟩ := ev_sound hE h
    obtain ⟨k, n, e1, h⟩ := intK_sound hu h
    split at h
    · rename_i el hk
      have hd := tk_slice (ht.tk ▸ hk); subst hd
      obtain ⟨ei, i2, d2, z2, ht2, h⟩ := Cx.ti_spec h
      unfold ixA at h
      split at h
      · rename_i l off len c _ _ _
        split at h
        · rename_i md sz cs hg
          split at h
          · rename_i hc
            obtain ⟨c1, c2, c3⟩ := hc
            simp only [VR] at hv
            obtain ⟨p, cv, o2, p1, p2, p3, p4, p5, hv⟩ := hv
            obtain ⟨p', hp', ca, e2, fr, g1, g2, g3, g4, g5, g6, g7⟩ := hR.obj l _ hg
            rw [p1] at hp'; cases hp'
            have ho : o2 = ⟨p.blk, p.start + off * ei.size, none⟩ := by rw [p5 (by omega), g3, c1]
            refine value _ _ ?_ h (by simp only [VR]; exact ⟨p, p1, rfl⟩)
            have hin : 0 ≤ n ∧ n < (len : Int) := ⟨c2, c3⟩
            simp only [execOp, hop, Sem.run_bind, Instr.indexAt, e1, asIntOf, Sem.run_pure, Result.andThen_ok, ht.run_und, hv, hin, and_self, if_true, Sem.run_ite, ht2.run_size, ho, addr_add]
            rw [Nat.add_mul, Nat.add_assoc]
          · cases h
        · cases h
      · cases h
    · rename_i ln el hk
      have hd := tk_arr (ht.tk ▸ hk); subst hd
      obtain ⟨ei, i2, d2, z2, ht2, h⟩ := Cx.ti_spec h
      unfold ixP at h
      split at h
      · rename_i l o2
        split at h
        · rename_i hc
          simp only [VR] at hv
          obtain ⟨p, p1, hv⟩ := hv
          refine value _ _ ?_ h (by simp only [VR]; exact ⟨p, p1, rfl⟩)
          simp only [execOp, hop, Sem.run_bind, Instr.indexAt, e1, asIntOf, Sem.run_pure, Result.andThen_ok, ht.run_und, hv, Instr.sureAddr, hc, and_self, if_true, Sem.run_ite, ht2.run_size, addr_add, Nat.add_assoc]
        · cases h
      · cases h
    · cases h
  · -- index
    rename_i t x y hop
    obtain ⟨ti, i, d, z, ht, h⟩ := Cx.ti_spec h
    obtain ⟨v, h, hv⟩ := ev_sound hE h
    obtain ⟨u, h, hu⟩ := ev_sound hE h
    obtain ⟨k, n, e1, h⟩ := intK_sound hu h
    split at h
    · rename_i hk
      have hd := tk_str (ht.tk ▸ hk); subst hd
      obtain ⟨s, e2, h5⟩ := asK_spec h
      subst e2
      simp only [Kd.val, VR] at hv
      unfold ixB at h5
      split at h5
      · rename_i hpos
        split at h5
        · rename_i b hb
          refine value _ (.int .u8 b.toNat) ?_ h5 (by simp [VR])
          simp only [execOp, hop, Sem.run_bind, Instr.index, e1, asIntOf, Sem.run_pure, Result.andThen_ok, ht.run_und, hv, hpos, if_true, hb]
        · cases h5
      · cases h5
    · cases h
  · -- extract
    rename_i x i hop
    obtain ⟨v, h, hv⟩ := ev_sound hE h
    unfold tupK at h
    split at h
    · split at h
      · rename_i y hy
        simp only [VR] at hv
        obtain ⟨vs, e1, h1⟩ := hv
        obtain ⟨cy, h2, h3⟩ := h1.get _ _ hy
        exact value y cy (by simp [execOp, hop, Instr.extract, e1, h2]) h h3
      · cases h
    · cases h
  · -- call
    rename_i c hop
    split at h
    · rename_i b hc
      obtain ⟨cv, w', h1, h2⟩ := bi_sound (ty := o.type) (consts := c.args.map fun | .const _ => true | _ => false) hR (fun hx => by have := hpm hx; cases b <;> simp [pureOp, hop, hc] at this ⊢) hE h
      refine wp_value (cv := cv) (w' := w') ?_ (hn _ _ h2)
      simp only [execOp, hop, Sem.run_bind, resolve, hc, Sem.run_pure, Result.andThen_ok, invoke]
      exact h1
    · rename_i f hc
      have hpm2 : ∀ id, (∀ g, f = .func g → g = id) → w0.pm = true → isPur (C.calls id) = true := fun id hid hx => by
        have := hpm hx
        cases f with
        | func g => rw [← hid g rfl]; simpa [pureOp, hop, hc] using this
        | _ => simp [pureOp, hop, hc] at this
      obtain ⟨v, h, hv⟩ := ev_sound hE h
      obtain ⟨args, h, hargs⟩ := evs_sound hE h
      split at h
      · rename_i id fi ca _
        have hv0 : ∀ g, f = .func g → g = id := fun g hg => by
          subst hg
          simp only [Act.eval] at hv
          simp only [VR] at hv
          obtain ⟨a', b', e1, _⟩ := hv
          cases e1; rfl
        simp only [VR] at hv
        obtain ⟨fi', ca', e1, h1, h2⟩ := hv
        refine call_wp hC hR hE (hpm2 id hv0) (VRs.append (VRs.append h1 hargs) h2) ?_ h (fun cv w' hp => hn cv w' ?_)
        rotate_left
        · obtain ⟨v, σ', m', k1, k2, k3, k4⟩ := hp
          refine ⟨v, σ', m', ?_, k2, k3, k4⟩
          cases f with
          | func g => exact k1
          | tmp t => exact coeK_spec (K := fun v => K v σ') k1
          | const t => exact coeK_spec (K := fun v => K v σ') k1
          | global t => exact coeK_spec (K := fun v => K v σ') k1
        simp only [execOp, hop, Sem.run_bind, resolve, hc, e1, Deferred.ofValue, Sem.run_pure, Result.andThen_ok, invoke]
        have ha : fi'.toArray ++ Array.map a.eval c.args ++ ca'.toArray = (fi' ++ List.map a.eval c.args.toList ++ ca').toArray := by apply Array.ext'; simp
        rw [ha]
      · cases h
    · cases h
  · -- makeMap
    rename_i t hop
    obtain ⟨ti, i, d, z, ht, h⟩ := Cx.ti_spec h
    split at h
    · refine wp_value (cv := .map (some w.heap.size)) (w' := { w with heap := w.heap.push (.map #[] 0), drawn := w.drawn }) ?_ (hn _ _ ⟨_, _, mset m σ.next ⟨w.heap.size, 0, 0, 0⟩, h, Sub.mset hR.fresh _, hR.new _ ⟨w.heap.size, 0, 0, 0⟩ _ w.drawn rfl ⟨#[], 0, by simp, rfl, fun i a b hi => by simp at hi, MapKept.stamped_empty 0⟩, by simp only [VR]; exact ⟨_, mset_self _ _, rfl⟩⟩)
      simp only [execOp, hop]
      rfl
    · cases h
  · -- lookup
    rename_i t x y ok hop
    obtain ⟨ti, i, d, z, ht, h⟩ := Cx.ti_spec h
    split at h
    · rename_i kt et hk
      have hd := tk_map (ht.tk ▸ hk); subst hd
      obtain ⟨ki, i2, d2, z2, ht2, h⟩ := Cx.ti_spec h
      obtain ⟨ei, i3, d3, z3, ht3, h⟩ := Cx.ti_spec h
      obtain ⟨v, h, hv⟩ := ev_sound hE h
      obtain ⟨u, h, hu⟩ := ev_sound hE h
      obtain ⟨k, n, e1, e2, h'⟩ := keyK_spec h
      clear h
      have hd2 := tk_int (ht2.tk ▸ e1); subst hd2
      subst e2
      simp only [VR] at hu
      obtain ⟨za, h8, hza⟩ := zeroK_spec (m := m) ht3 h'
      unfold mgetZ at h8
      obtain ⟨es, rx, ry, q1, q2, q3, q4⟩ := mget_sound hR hv h8
      have run : ∀ (vv : Value) (b : Bool), (ry = none ∧ vv = z3 ∧ b = false ∨ ∃ j, ry = some (j, vv) ∧ b = true) →
          (execOp a.eval o).run C.P w = .ok (.value (if ok then .tuple #[vv, .bool b] else vv)) w := by
        intro vv b hb
        have hf := findKey_run (P := C.P) ht2.und q2 w
        rcases q1 with ⟨e3, e4⟩ | ⟨bk, cl, e3, e4⟩
        · subst e4
          rcases hb with ⟨hy, rfl, rfl⟩ | ⟨j, hy, rfl⟩ <;> subst hy <;> cases ok <;>
            simp [execOp, hop, Instr.lookup, underlying, ht.und, e3, hu, checkKey_int ht2.und, hf, ht3.run_zero]
        · rcases hb with ⟨hy, rfl, rfl⟩ | ⟨j, hy, rfl⟩ <;> subst hy <;> cases ok <;>
            simp [execOp, hop, Instr.lookup, underlying, ht.und, e3, hu, getObj, Sem.run, e4, checkKey_int ht2.und, hf, ht3.run_zero]
      have fin : ∀ (x : AVal) (b : Bool) (vv : Value), VR m x vv → (execOp a.eval o).run C.P w = .ok (.value (if ok then .tuple #[vv, .bool b] else vv)) w →
          (asK (kdOf ei.tk) x fun y => bif ok then K (.tup [(kdOf ei.tk).val y, .bool b]) σ else K ((kdOf ei.tk).val y) σ) = some r → o.wp C.P a w next Q := by
        intro x b vv hx hrun hk
        obtain ⟨y, e5, hk⟩ := asK_spec hk
        rw [e5] at hk
        cases ok with
        | true => exact wp_value hrun (hn _ w ⟨_, σ, m, hk, Sub.refl m, hR, by simp only [if_true, VR, VRs]; exact ⟨[vv, .bool b], rfl, _, _, rfl, hx, _, _, rfl, rfl, rfl⟩⟩)
        | false => exact wp_value hrun (hn _ w ⟨_, σ, m, hk, Sub.refl m, hR, hx⟩)
      rcases q4 with ⟨rfl, rfl⟩ | ⟨av, j, cu, rfl, rfl, q5⟩
      · exact fin za false z3 hza (run z3 false (.inl ⟨rfl, rfl, rfl⟩)) q3
      · exact fin av true cu q5 (run cu true (.inr ⟨j, rfl, rfl⟩)) q3
    · cases h
  · -- typeAssert
    rename_i x u t ok hop
    obtain ⟨ti, i, d, z, ht, h⟩ := Cx.ti_spec h
    obtain ⟨v, h, hv⟩ := ev_sound hE h
    cases hif : isIf ti.tk with
    | true => rw [hif] at h; cases h
    | false =>
      rw [hif] at h
      simp only [cond_false] at h
      have hni : ∀ ms, d ≠ .interface ms := fun ms e => by subst e; rw [ht.tk] at hif; cases hif
      have good : ∀ (cy : Value), a.eval x = .iface t cy → (execOp a.eval o).run C.P w = .ok (.value (if ok then .tuple #[cy, .bool true] else cy)) w := by
        intro cy hc
        simp only [execOp, hop, Instr.typeAssert, Sem.run_bind, ht.run_und, Result.andThen_ok, hc]
        cases d <;> first | exact absurd rfl (hni _) | (cases ok <;> simp)
      have bad : ok = true → (a.eval x = .nilIface ∨ ∃ u' cy, a.eval x = .iface u' cy ∧ u' ≠ t) → (execOp a.eval o).run C.P w = .ok (.value (.tuple #[z, .bool false])) w := by
        rintro rfl (hc | ⟨u', cy, hc, hne⟩)
        · simp only [execOp, hop, Instr.typeAssert, Sem.run_bind, ht.run_und, Result.andThen_ok, hc]
          cases d <;> first | exact absurd rfl (hni _) | simp [ht.run_zero]
        · simp only [execOp, hop, Instr.typeAssert, Sem.run_bind, ht.run_und, Result.andThen_ok, hc]
          cases d <;> first | exact absurd rfl (hni _) | simp [hne, ht.run_zero]
      have asr : ∀ {K' : Option AVal → Option Rt}, assertK t v K' = some r → (∃ ay cy, K' (some ay) = some r ∧ a.eval x = .iface t cy ∧ VR m ay cy) ∨ (K' none = some r ∧ (a.eval x = .nilIface ∨ ∃ u' cy, a.eval x = .iface u' cy ∧ u' ≠ t)) := by
        intro K' hk
        unfold assertK at hk
        split at hk
        · simp only [VR] at hv
          obtain ⟨cy, hv, hy⟩ := hv
          split at hk
          · rename_i e; exact .inl ⟨_, cy, hk, by rw [hv, e], hy⟩
          · rename_i e; exact .inr ⟨hk, .inr ⟨_, cy, hv, e⟩⟩
        · simp only [VR] at hv
          exact .inr ⟨hk, .inl hv⟩
        · cases hk
      cases ok with
      | true =>
        simp only [cond_true] at h
        obtain ⟨za, h8, hza⟩ := zeroK_spec (m := m) ht h
        unfold assertZ at h8
        rcases asr h8 with ⟨ay, cy, h9, hc, hy⟩ | ⟨h9, hc⟩
        · obtain ⟨y, e5, hk⟩ := asK_spec h9
          rw [e5] at hk
          exact wp_value (good cy hc) (hn _ w ⟨_, σ, m, hk, Sub.refl m, hR, by simp only [if_true, VR, VRs]; exact ⟨[cy, .bool true], rfl, _, _, rfl, hy, _, _, rfl, rfl, rfl⟩⟩)
        · obtain ⟨y, e5, hk⟩ := asK_spec h9
          rw [e5] at hk
          exact wp_value (bad rfl hc) (hn _ w ⟨_, σ, m, hk, Sub.refl m, hR, by simp only [VR, VRs]; exact ⟨[z, .bool false], rfl, _, _, rfl, hza, _, _, rfl, rfl, rfl⟩⟩)
      | false =>
        simp only [cond_false] at h
        rcases asr h with ⟨ay, cy, h9, hc, hy⟩ | ⟨h9, hc⟩
        · obtain ⟨y, e5, hk⟩ := asK_spec h9
          rw [e5] at hk
          exact wp_value (good cy hc) (hn _ w ⟨_, σ, m, hk, Sub.refl m, hR, hy⟩)
        · cases h9
  · -- mapUpdate
    rename_i t x y u hop
    obtain ⟨w', q1, q2⟩ := mup_sound hR (pmf hpm (by simp [pureOp, hop])) hE h
    rw [Oper.wp, show (execOp a.eval o).run C.P w = .ok .skip w' by simp [execOp, hop, q1], Oper.upon]
    exact hn undef w' q2
  · -- insert
    rename_i t x y u hop
    obtain ⟨w', q1, q2⟩ := mup_sound hR (pmf hpm (by simp [pureOp, hop])) hE h
    rw [Oper.wp, show (execOp a.eval o).run C.P w = .ok .skip w' by simp [execOp, hop, q1], Oper.upon]
    exact hn undef w' q2
  · cases h

set_option maxHeartbeats 1000000 in
/-- What leaves the heap alone asks of what follows only what it does with that heap. -/
theorem dop_pure {K' : AVal → Heap → Option Rt} (hp : pureOp C.calls o = true) (h : ∀ v, K v σ = K' v σ) : dop C e o σ K = dop C e o σ K' := by
  unfold dop
  unfold pureOp at hp
  split at hp
  all_goals (rename_i hop)
  all_goals first
    | (simp only [hop, h]; done)
    | (simp only [hop]; congr 1; funext ti; congr 1; simp only [h]; done)
    | skip
  · simp only [hop]
    split at hp
    · rename_i hc
      simp only [hc]
      unfold biK
      split <;> first | rfl | (simp only [h]; done) | contradiction | (simp_all; done)
    · rename_i hc
      simp only [hc]
      unfold biK
      split <;> first | rfl | (simp only [h]; done) | contradiction | (simp_all; done)
    · rename_i hc
      simp only [hc]
      unfold biK
      split <;> first | rfl | (simp only [h]; done) | contradiction | (simp_all; done)
    · rename_i f hc
      simp only [hc, ev]
      congr 1
      funext args
      cases hs : C.calls f with
      | none => rfl
      | some s =>
        rw [hs] at hp
        cases s with
        | eff ks g => cases hp
        | pur ks g => simp only [doCall, h]
    · cases hp
  · cases hp

end
end Go.Proofs.YtgneblbblihaoaaDoor.A
