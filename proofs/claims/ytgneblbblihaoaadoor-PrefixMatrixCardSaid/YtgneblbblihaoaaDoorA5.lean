/- Appending. -/
import Derived.Test.YtgneblbblihaoaaDoorA4
set_option linter.all false
namespace Go.Proofs.YtgneblbblihaoaaDoor.A
open Go Go.RowKit

theorem growBy_le (newLen X : Nat) (hX : newLen + (newLen + 768) / 4 ≤ X) : ∀ (n c : Nat), c ≤ X → Builtin.growBy newLen n c ≤ X
  | 0, c, h => h
  | n + 1, c, h => by
    simp only [Builtin.growBy]
    split
    · exact h
    · rename_i hc
      exact growBy_le newLen X hX n _ (by omega)

theorem nextslicecap_le (newLen oldCap : Nat) (h : oldCap < newLen) : Builtin.nextslicecap newLen oldCap ≤ 2 * newLen := by
  unfold Builtin.nextslicecap
  split
  · omega
  · split
    · omega
    · exact growBy_le _ _ (by omega) _ _ (by omega)

theorem zeroCells_size (z : Array Value) (n : Nat) : (Builtin.zeroCells z n).size = n * z.size := by simp [Builtin.zeroCells]

section
variable {Rt : Type} {P : Program} {B : Nat → Prop} {w0 : Base} {m : Nat → Option Pl} {σ : Heap} {w : World} {r : Rt}

/-- What is appended: how many elements, and which cells, in every world with this heap. -/
structure SrcOk (P : Program) (m : Nat → Option Pl) (w : World) (sz : Nat) (x : Value) (xs : List AVal) (n : Nat) (us : List Value) : Prop where
  len : ∀ w' : World, (Builtin.lenOf x).run P w' = .ok n w'
  cells : ∀ w' : World, w'.heap = w.heap → (Builtin.firstCells sz n x).run P w' = .ok us.toArray w'
  vr : VRs m xs us
  one : ∀ u ∈ us, u.oneCell' = true
  ulen : us.length = n * sz

theorem firstCells_run {sz : Nat} {p : Pl} {cs : List AVal} {off len : Nat} {o : Addr} {cv : Nat} (hR : R B w0 m σ w) {l : Nat} {md : Md} (hg : σ.get l = some (.cells md sz cs)) (hp : m l = some p)
    (hlen : len ≤ cv) (ho : cv ≠ 0 → o = ⟨p.blk, p.start + off * p.sz, none⟩) (hc : (off + len) * sz ≤ cs.length) :
    ∃ us : List Value, (∀ w' : World, w'.heap = w.heap → (Builtin.firstCells sz len (.slice (some o) len cv)).run P w' = .ok us.toArray w') ∧
      VRs m ((cs.drop (off * sz)).take (len * sz)) us ∧ (∀ u ∈ us, u.oneCell' = true) ∧ us.length = len * sz := by
  obtain ⟨p', hp', ca, e, fr, g1, g2, g3, g4, g5, g6, g7⟩ := hR.obj l _ hg
  rw [hp] at hp'; cases hp'
  have hmul : (off + len) * sz = off * sz + len * sz := Nat.add_mul _ _ _
  have hcell : ∀ j, j < len * sz → ∃ a v, cs[off * sz + j]? = some a ∧ ca[p.start + (off * sz + j)]? = some v ∧ VR m a v ∧ v.oneCell' = true := fun j hj => by
    have hlt : off * sz + j < cs.length := by omega
    obtain ⟨v, q1, q2, q3⟩ := g7 (off * sz + j) _ (List.getElem?_eq_getElem hlt)
    exact ⟨_, v, List.getElem?_eq_getElem hlt, q1, q2, q3⟩
  let us : List Value := (List.range (len * sz)).map fun j => ca[p.start + (off * sz + j)]?.getD undef
  have hul : us.length = len * sz := by simp [us]
  have hus : ∀ j, j < len * sz → us[j]? = ca[p.start + (off * sz + j)]? := fun j hj => by
    obtain ⟨a, v, _, q1, _, _⟩ := hcell j hj
    simp [us, hj, q1]
  refine ⟨us, fun w' hw' => ?_, VRs.of_get (by simp [hul]; omega) fun j x hx => ?_, fun u hu => ?_, hul⟩
  · simp only [Builtin.firstCells]
    rw [← hul]
    refine run_loadCells_list w' _ us fun j v hj => ?_
    have hjl : j < len * sz := by rw [← hul]; exact (List.getElem?_eq_some_iff.1 hj).1
    have hcv : cv ≠ 0 := by
      intro e0
      have : len = 0 := by omega
      rw [this] at hjl; simp at hjl
    rw [ho hcv, addr_add, g3]
    simp only [World.cell?, hw', g1]
    rw [hus j hjl] at hj
    rw [show p.start + off * sz + j = p.start + (off * sz + j) by omega]
    simpa using hj
  · have hjl : j < len * sz := by
      have := (List.getElem?_eq_some_iff.1 hx).1
      simp at this; omega
    obtain ⟨a, v, q0, q1, q2, q3⟩ := hcell j hjl
    refine ⟨v, by rw [hus j hjl]; exact q1, ?_⟩
    rw [List.getElem?_take, if_pos hjl, List.getElem?_drop] at hx
    rw [q0] at hx; cases hx
    exact q2
  · obtain ⟨j, hj, rfl⟩ := List.getElem_of_mem hu
    obtain ⟨a, v, q0, q1, q2, q3⟩ := hcell j (by omega)
    have h1 := hus j (by omega)
    rw [List.getElem?_eq_getElem hj, q1] at h1
    cases h1
    exact q3

theorem src_sound {sz : Nat} {x : AVal} {cx : Value} {K : List AVal → Nat → Option Rt} (hR : R B w0 m σ w) (hx : VR m x cx) (h : srcK σ sz x K = some r) :
    ∃ xs n us, K xs n = some r ∧ SrcOk P m w sz cx xs n us := by
  unfold srcK at h
  split at h
  · simp only [VR] at hx; subst hx
    exact ⟨[], 0, [], h, fun w' => by simp [Builtin.lenOf], fun w' _ => by simp [Builtin.firstCells], by simp [VRs], by simp, by simp⟩
  · rename_i l off len c
    split at h
    · rename_i md sz' cs hg
      split at h
      · rename_i hc
        obtain ⟨c1, c2⟩ := hc
        subst c1
        simp only [VR] at hx
        obtain ⟨p, capv, o, p1, p2, p3, p4, p5, rfl⟩ := hx
        obtain ⟨us, h1, h2, h3, h4⟩ := firstCells_run (P := P) hR hg p1 p4 p5 c2
        exact ⟨_, len, us, h, fun w' => by simp [Builtin.lenOf], h1, h2, h3, h4⟩
      · cases h
    · cases h
  · cases h

/-- The grown slice: a new block. -/
theorem append_grow {K : AVal → Heap → Option Rt} {t u el : TypeId} {ei : TI} {i : TypeInfo} {d du : TypeDesc} {z : Value} (hu : P.underlying t = some (.slice el)) (huu : P.underlying u = some du) (hni : (∃ e', du = .slice e') ∨ du = .string)
    (ht : TiOk P el ei i d z) (hR : R B w0 m σ w) {base : Option Addr} {sLen sCap n : Nat} {x : Value} {xs os : List AVal} {us vs : List Value} (ty : TypeId) (hx : SrcOk P m w ei.size x xs n us)
    (ho : ∀ w' : World, w'.heap = w.heap → (Builtin.firstCells ei.size sLen (.slice base sLen sCap)).run P w' = .ok vs.toArray w') (hov : VRs m os vs) (ho1 : ∀ u ∈ vs, u.oneCell' = true) (hol : vs.length = sLen * ei.size)
    (hneed : sCap < sLen + n) (hb : (sLen + n) * ei.bytes ≤ 70368744177664) (hn : sLen + n ≤ 70368744177664)
    (hk : K (.sl σ.next 0 (sLen + n) none) (σ.new (.cells .rw ei.size (os ++ xs))) = some r) :
    Yield P B w0 m K r (Builtin.append_ #[t, u] ty #[.slice base sLen sCap, x]) w := by
  obtain ⟨N, hN⟩ : ∃ N, (Question.appendCap (sLen + n) sCap el).cut (w.tape w.drawn (.appendCap (sLen + n) sCap el)) = N := ⟨_, rfl⟩
  have hNle : sLen + n ≤ N := by rw [← hN]; simp only [Question.cut]; omega
  have hcapb : Builtin.nextslicecap (sLen + n) sCap * i.bytes ≤ 281474976710656 := by
    have h1 := nextslicecap_le (sLen + n) sCap hneed
    have h2 : Builtin.nextslicecap (sLen + n) sCap * i.bytes ≤ (2 * (sLen + n)) * i.bytes := Nat.mul_le_mul_right _ h1
    rw [ht.bytes] at h2 ⊢
    have h3 : 2 * (sLen + n) * ei.bytes = 2 * ((sLen + n) * ei.bytes) := Nat.mul_assoc _ _ _
    omega
  have hrun : (Builtin.append_ #[t, u] ty #[.slice base sLen sCap, x]).run P w =
      .ok (.slice (some ⟨w.heap.size, 0, none⟩) (sLen + n) N) { w with heap := w.heap.push (.cells (vs.toArray ++ us.toArray ++ Builtin.zeroCells z.cells (N - (sLen + n))) el (0, 0)), drawn := w.drawn + 1 } := by
    have c1 : ¬ (sLen + n ≤ sCap) := by omega
    have c2 : ¬ (((sLen + n : Nat) : Int) > IntKind.i64.max ∧ (False ∨ i.bytes = 0)) := by
      intro hh
      have : IntKind.i64.max = 9223372036854775807 := by decide
      omega
    have c3 : ¬ (Builtin.nextslicecap (sLen + n) sCap * i.bytes > 2 ^ 48) := by omega
    have hw1 : ({ w with drawn := w.drawn + 1 } : World).heap = w.heap := rfl
    have hforced : (Question.appendCap (sLen + n) sCap el).forced = false := rfl
    have e1 := ho { w with drawn := w.drawn + 1 } rfl
    have e2 := hx.cells { w with drawn := w.drawn + 1 } rfl
    have hun := TiOk.run_size ht
    have c2' : ¬ (((sLen + n : Nat) : Int) > IntKind.i64.max ∧ i.bytes = 0) := by simpa using c2
    rcases hni with ⟨e', rfl⟩ | rfl
    all_goals
      simp only [Builtin.append_, List.getElem?_toArray, List.getElem?_cons_zero, List.getElem?_cons_succ, Sem.run_bind, underlying, run_program, Result.andThen_ok, hu, huu, Sem.run_pure, hun, Bool.false_eq_true, if_false, hx.len,
        c1, ht.run_info, false_or]
      simp only [c2', if_false, Sem.run_ite, Sem.run_bind, Sem.run_pure, Result.andThen_ok, ht.run_info, c3, run_choose, hforced, hN, run_askRoom, Bool.false_eq_true, Bool.not_false, if_true, e1, e2, ht.run_zero, newRow, run_newObj]
  refine ⟨_, _, hrun, ?_⟩
  have hxl := hx.ulen
  have hxv := hx.vr.length
  have hovl := hov.length
  obtain ⟨q1, q2⟩ := hR.row (sz := ei.size) (cap := N) (cs := os ++ xs) (c := vs.toArray ++ us.toArray ++ Builtin.zeroCells z.cells (N - (sLen + n))) el (w.drawn + 1)
    (by rw [List.length_append, ← hovl, ← hxv, hol, hxl, ← Nat.add_mul]; exact Nat.mul_le_mul_right _ hNle)
    (by simp only [Array.size_append, List.size_toArray, zeroCells_size, ht.z_len, hol, hxl]; rw [← Nat.add_mul, ← Nat.add_mul]; exact Nat.le_of_eq (by congr 1; omega))
    (fun j a hj => by
      have hv := VRs.append hov hx.vr
      obtain ⟨v, v1, v2⟩ := hv.get j a hj
      refine ⟨v, ?_, v2, ?_⟩
      · have hjl := (List.getElem?_eq_some_iff.1 v1).1
        rw [Array.getElem?_append_left (by simpa using hjl)]
        rw [← Array.getElem?_toList]
        simpa using v1
      · have hm := List.mem_of_getElem? v1
        rcases List.mem_append.1 hm with hm | hm
        · exact ho1 v hm
        · exact hx.one v hm)
  refine ⟨_, _, _, hk, q1, q2, ?_⟩
  simp only [VR]
  exact ⟨_, N, _, mset_self _ _, fun _ => by simp, fun k hk => (by cases hk), hNle, fun _ => by simp, rfl⟩

/-- There is room: the cells are written behind. -/
theorem append_room {t u el : TypeId} {ei : TI} {i : TypeInfo} {d du : TypeDesc} {z : Value} (hu : P.underlying t = some (.slice el)) (huu : P.underlying u = some du) (hni : (∃ e', du = .slice e') ∨ du = .string)
    (ht : TiOk P el ei i d z) {b o sLen sCap n : Nat} {x : Value} {us : List Value} {c : Array Value} {e : TypeId} (ty : TypeId) {xs : List AVal} (hx : SrcOk P m w ei.size x xs n us)
    (hneed : sLen + n ≤ sCap) (hc : w.heap[b]? = some (.cells c e (0, 0))) (hs : o + (sLen + n) * ei.size ≤ c.size) :
    ∃ w' c', (Builtin.append_ #[t, u] ty #[.slice (some ⟨b, o, none⟩) sLen sCap, x]).run P w = .ok (.slice (some ⟨b, o, none⟩) (sLen + n) sCap) w' ∧ Upd b w w' ∧ w'.heap.size = w.heap.size ∧ w'.heap[b]? = some (.cells c' e (0, 0)) ∧ c'.size = c.size ∧
      ∀ j, c'[j]? = if o + sLen * ei.size ≤ j ∧ j < o + (sLen + n) * ei.size then us[j - (o + sLen * ei.size)]? else c[j]? := by
  have hmul : (sLen + n) * ei.size = sLen * ei.size + n * ei.size := Nat.add_mul _ _ _
  obtain ⟨w', c', h1, h2, h3, h4, h5, h6⟩ := storeCells_run P us w b (o + sLen * ei.size) 0 c e hc hx.one (by rw [hx.ulen]; omega)
  refine ⟨w', c', ?_, h2, h3, h4, h5, fun j => ?_⟩
  · skip
    have hun := TiOk.run_size ht
    have e2 := hx.cells w rfl
    rcases hni with ⟨e', rfl⟩ | rfl
    all_goals
      simp only [Builtin.append_, List.getElem?_toArray, List.getElem?_cons_zero, List.getElem?_cons_succ, Sem.run_bind, underlying, run_program, Result.andThen_ok, hu, huu, Sem.run_pure, hun, Bool.false_eq_true, if_false, hx.len,
        hneed, if_true, e2, Bool.not_false, addr_add, h1]
  · rw [h6 j, hx.ulen]
    by_cases hj : o + sLen * ei.size ≤ j ∧ j < o + (sLen + n) * ei.size
    · rw [if_pos (by omega), if_pos hj]; rfl
    · rw [if_neg (by omega), if_neg hj]

/-- Nothing is appended. -/
theorem append_nothing {t u el : TypeId} {ei : TI} {i : TypeInfo} {d du : TypeDesc} {z : Value} (hu : P.underlying t = some (.slice el)) (huu : P.underlying u = some du) (hni : (∃ e', du = .slice e') ∨ du = .string)
    (ht : TiOk P el ei i d z) {base : Option Addr} {sLen sCap : Nat} {x : Value} {us : List Value} (ty : TypeId) {xs : List AVal} (hx : SrcOk P m w ei.size x xs 0 us) (hneed : sLen ≤ sCap) :
    (Builtin.append_ #[t, u] ty #[.slice base sLen sCap, x]).run P w = .ok (.slice base sLen sCap) w := by
  have hun := TiOk.run_size ht
  have e2 := hx.cells w rfl
  have hus : us = [] := List.length_eq_zero_iff.1 (by rw [hx.ulen]; simp)
  subst hus
  rcases hni with ⟨e', rfl⟩ | rfl
  all_goals
    cases base <;>
    simp only [Builtin.append_, List.getElem?_toArray, List.getElem?_cons_zero, List.getElem?_cons_succ, Sem.run_bind, underlying, run_program, Result.andThen_ok, hu, huu, Sem.run_pure, hun, Bool.false_eq_true, if_false, hx.len,
        Nat.add_zero, hneed, if_true, e2, Bool.not_false, storeCells, List.toList_toArray]

theorem append_sound {K : AVal → Heap → Option Rt} {t u el : TypeId} {ei : TI} {i : TypeInfo} {d du : TypeDesc} {z : Value} (hu : P.underlying t = some (.slice el)) (huu : P.underlying u = some du) (hni : (∃ e', du = .slice e') ∨ du = .string)
    (ht : TiOk P el ei i d z) (hR : R B w0 m σ w) (hpm : w0.pm = false) {s : AVal} {cs x : Value} {xs : List AVal} {n : Nat} {us : List Value} (ty : TypeId) (hs : VR m s cs) (hx : SrcOk P m w ei.size x xs n us)
    (h : appC σ ei.size ei.bytes s xs n K = some r) : Yield P B w0 m K r (Builtin.append_ #[t, u] ty #[cs, x]) w := by
  unfold appC at h
  split at h
  · simp only [VR] at hs; subst hs
    by_cases hn : n = 0
    · subst hn
      rw [if_pos rfl] at h
      exact Yield.pure (v := .nils) (append_nothing hu huu hni ht ty hx (Nat.le_refl _)) hR (by simp [VR]) h
    · rw [if_neg hn] at h
      split at h
      · rename_i hc
        refine append_grow (os := []) (vs := []) hu huu hni ht hR ty hx (fun w' _ => by simp [Builtin.firstCells]) (by simp [VRs]) (by simp) (by simp) (by omega) (by simpa using hc.1) (by simpa using hc.2) ?_
        simpa [newK] using h
      · cases h
  · rename_i l off len c
    split at h
    · rename_i md sz' ca hg
      split at h
      · rename_i hc
        obtain ⟨c1, c2, c3⟩ := hc
        subst c1
        have hs' := hs
        simp only [VR] at hs
        obtain ⟨p, capv, o, p1, p2, p3, p4, p5, rfl⟩ := hs
        obtain ⟨p', hp', cw, e, fr, g1, g2, g3, g4, g5, g6, g7⟩ := hR.obj l _ hg
        rw [p1] at hp'; cases hp'
        have hm1 : (off + len) * ei.size = off * ei.size + len * ei.size := Nat.add_mul _ _ _
        have hm2 : (off + len + n) * ei.size = off * ei.size + (len + n) * ei.size := by rw [Nat.add_assoc]; exact Nat.add_mul _ _ _
        have hm3 : (len + n) * ei.size = len * ei.size + n * ei.size := Nat.add_mul _ _ _
        have hxul := hx.ulen
        have hxvl := hx.vr.length
        by_cases hn : n = 0
        · subst hn
          rw [if_pos rfl] at h
          exact Yield.pure (v := .sl l off len c) (append_nothing hu huu hni ht ty hx p4) hR hs' h
        · rw [if_neg hn] at h
          split at h
          · rename_i hbd
            -- in place, what was known
            have inplace : md = .rw → len + n ≤ capv → (off + len + n) * ei.size ≤ ca.length → K (.sl l off (len + n) c) (σ.set l (.cells .rw ei.size (ca.take ((off + len) * ei.size) ++ xs ++ ca.drop ((off + len + n) * ei.size)))) = some r →
                Yield P B w0 m K r (Builtin.append_ #[t, u] ty #[.slice (some o) len capv, x]) w := fun hro hroom hfit hk => by
              subst hro
              have hfr := g2 rfl; subst hfr
              have ho : o = ⟨p.blk, p.start + off * ei.size, none⟩ := by rw [p5 (by omega), g3]
              subst ho
              obtain ⟨w', c', k1, k2, k3, k4, k5, k6⟩ := append_room (m := m) (b := p.blk) (o := p.start + off * ei.size) hu huu hni ht ty hx hroom g1 (by omega)
              refine ⟨_, w', k1, _, _, m, hk, Sub.refl m, ?_, ?_⟩
              · have e0 : (off + len + n) * ei.size = (off + len) * ei.size + xs.length := by omega
                rw [e0]
                refine R.upd (b := p.blk) (l := l) (o := .cells .rw ei.size (ca.take ((off + len) * ei.size) ++ xs ++ ca.drop ((off + len) * ei.size + xs.length))) (p := p) hR k2 (hR.own hpm l _ p hg rfl p1) (Sub.refl m) (fun _ _ => rfl) p1 rfl (by rw [k3]; exact (hR.dom l p p1).2)
                  (fun k q hq => .inl hq) (by simp [Heap.set]) (by simpa [Heap.set] using (hR.dom l p p1).1) (fun k y hk2 hy => ?_) (by simp [Heap.set]) ?_
                · simp only [Heap.set, if_neg hk2] at hy
                  exact ⟨hy, fun q hq => Ne.symm (hR.excl l k _ y p q (Ne.symm hk2) hg hy p1 hq rfl)⟩
                · refine ⟨c', e, (0, 0), k4, fun _ => rfl, g3, g4, by rw [splice_len _ _ _ (by omega)]; exact g5, by rw [k5]; exact g6, fun j a hj => ?_⟩
                  rw [splice_get _ _ _ (by omega)] at hj
                  rw [k6]
                  by_cases i1 : j < (off + len) * ei.size
                  · rw [if_pos i1] at hj; rw [if_neg (by omega)]; exact g7 j a hj
                  · rw [if_neg i1] at hj
                    by_cases i2 : j < (off + len) * ei.size + xs.length
                    · rw [if_pos i2] at hj; rw [if_pos (by omega)]
                      obtain ⟨v, q1, q2⟩ := hx.vr.get _ _ hj
                      rw [show p.start + j - (p.start + off * ei.size + len * ei.size) = j - (off + len) * ei.size by omega]
                      exact ⟨v, q1, q2, hx.one v (List.mem_of_getElem? q1)⟩
                    · rw [if_neg i2] at hj; rw [if_neg (by omega)]; exact g7 j a hj
              · simp only [VR]
                exact ⟨p, capv, _, p1, p2, p3, hroom, fun _ => by rw [g3], rfl⟩
            split at h
            · rename_i k
              obtain ⟨x1, x2⟩ := p3 k rfl
              split at h
              · rename_i hk
                split at h
                · rename_i hf
                  exact inplace hf.1 (by omega) hf.2 h
                · cases h
              · rename_i hk
                obtain ⟨vs, f1, f2, f3, f4⟩ := firstCells_run (P := P) hR hg p1 p4 p5 c3
                exact append_grow hu huu hni ht hR ty hx f1 f2 f3 f4 (by omega) hbd.1 hbd.2 (by simpa [newK] using h)
            · have hcv := p2 rfl
              split at h
              · rename_i hmd
                subst hmd
                have hfr := g2 rfl; subst hfr
                split at h
                · rename_i hfit
                  refine inplace rfl ?_ hfit h
                  have h1 : (off + len + n) * ei.size ≤ p.cap * ei.size := Nat.le_trans hfit g5
                  have h2 : off + len + n ≤ p.cap := Nat.le_of_mul_le_mul_right h1 c2
                  omega
                · rename_i hfit
                  by_cases hroom : len + n ≤ capv
                  · -- it lies in the old block; the object is a new one
                    have ho : o = ⟨p.blk, p.start + off * ei.size, none⟩ := by rw [p5 (by omega), g3]
                    subst ho
                    have hcapm : (off + (len + n)) * ei.size ≤ p.cap * ei.size := Nat.mul_le_mul_right _ (by omega)
                    have hm4 : (off + (len + n)) * ei.size = off * ei.size + (len + n) * ei.size := Nat.add_mul _ _ _
                    have hm5 : p.cap * ei.size = off * ei.size + (p.cap - off) * ei.size := by rw [← Nat.add_mul]; congr 1; omega
                    obtain ⟨w', c', k1, k2, k3, k4, k5, k6⟩ := append_room (m := m) (b := p.blk) (o := p.start + off * ei.size) hu huu hni ht ty hx hroom g1 (by omega)
                    have hcl : ((ca.drop (off * ei.size)).take (len * ei.size)).length = len * ei.size := by simp; omega
                    refine ⟨_, w', k1, _, _, mset m σ.next ⟨p.blk, p.start + off * ei.size, p.cap - off, ei.size⟩, h, Sub.mset hR.fresh _, ?_, ?_⟩
                    · refine R.upd (b := p.blk) (l := σ.next) (o := .cells .rw ei.size ((ca.drop (off * ei.size)).take (len * ei.size) ++ xs)) (p := ⟨p.blk, p.start + off * ei.size, p.cap - off, ei.size⟩) (hR.kill l) k2
                        (hR.own hpm l _ p hg rfl p1) (Sub.mset hR.fresh _) (fun k hk => mset_old _ _ k (Nat.lt_of_lt_of_le hk hR.oldn)) (mset_self _ _) rfl (by rw [k3]; exact (hR.dom l p p1).2)
                        (fun k q hq => ?_) (by simp [Heap.kill, Heap.new]) (by simp [Heap.kill, Heap.new]) (fun k y hk2 hy => ?_) (by simp [Heap.kill, Heap.new]) ?_
                      · unfold mset at hq
                        by_cases e1 : k = σ.next
                        · rw [if_pos e1] at hq; cases hq; exact .inr ⟨e1, rfl⟩
                        · rw [if_neg e1] at hq; exact .inl hq
                      · have hy' : (σ.kill l).get k = some y := by simpa [Heap.new, Heap.kill, hk2] using hy
                        refine ⟨hy', fun q hq => ?_⟩
                        have hkl : k ≠ l := by intro e1; subst e1; simp [Heap.kill] at hy'
                        have hy2 : σ.get k = some y := by simpa [Heap.kill, hkl] using hy'
                        exact Ne.symm (hR.excl l k _ y p q (Ne.symm hkl) hg hy2 p1 hq rfl)
                      · refine ⟨c', e, (0, 0), k4, fun _ => rfl, rfl, trivial, ?_, ?_, fun j a hj => ?_⟩
                        · rw [List.length_append, hcl, ← hxvl, hxul]; show _ ≤ (p.cap - off) * ei.size; omega
                        · show p.start + off * ei.size + (p.cap - off) * ei.size ≤ _; rw [k5]; omega
                        · show ∃ v, c'[p.start + off * ei.size + j]? = some v ∧ _
                          rw [k6]
                          by_cases i1 : j < len * ei.size
                          · rw [List.getElem?_append_left (by omega), List.getElem?_take, if_pos i1, List.getElem?_drop] at hj
                            rw [if_neg (by omega)]
                            obtain ⟨v, q1, q2, q3⟩ := g7 _ a hj
                            exact ⟨v, by rw [← q1]; congr 1; omega, VR.mono (Sub.mset hR.fresh _) _ _ q2, q3⟩
                          · rw [List.getElem?_append_right (by omega), hcl] at hj
                            obtain ⟨v, q1, q2⟩ := hx.vr.get _ _ hj
                            have hjx := (List.getElem?_eq_some_iff.1 hj).1
                            rw [if_pos (by omega)]
                            rw [show p.start + off * ei.size + j - (p.start + off * ei.size + len * ei.size) = j - len * ei.size by omega]
                            exact ⟨v, q1, VR.mono (Sub.mset hR.fresh _) _ _ q2, hx.one v (List.mem_of_getElem? q1)⟩
                    · simp only [VR]
                      exact ⟨_, capv, _, mset_self _ _, fun _ => (by show 0 + capv = p.cap - off; omega), fun k hk => (by cases hk), hroom, fun _ => (by show (⟨p.blk, p.start + off * ei.size, none⟩ : Addr) = ⟨p.blk, p.start + off * ei.size + 0 * ei.size, none⟩; rw [Nat.zero_mul, Nat.add_zero]), rfl⟩
                  · obtain ⟨vs, f1, f2, f3, f4⟩ := firstCells_run (P := P) hR hg p1 p4 p5 c3
                    exact append_grow (σ := σ.kill l) hu huu hni ht (hR.kill l) ty hx f1 f2 f3 f4 (by omega) hbd.1 hbd.2 (by simpa [newK] using h)
              · cases h
          · cases h
      · cases h
    · cases h
  · cases h

end
end Go.Proofs.YtgneblbblihaoaaDoor.A
