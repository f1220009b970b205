/- Maps by numbers: each operation on one. -/
import Derived.Test.YtgneblbblihaoaaDoorA7
set_option linter.all false
namespace Go.Proofs.YtgneblbblihaoaaDoor.A
open Go Go.RowKit

section
variable {Rt : Type} {P : Program} {B : Nat → Prop} {w0 : Base} {m : Nat → Option Pl} {σ : Heap} {w : World} {r : Rt}

theorem keyK_spec {tk : TK} {v : AVal} {K : IntKind → Int → Option Rt} (h : keyK tk v K = some r) : ∃ k n, tk = .int k ∧ v = .int k n ∧ K k n = some r := by
  unfold keyK at h
  split at h
  · split at h
    · rename_i e; subst e; exact ⟨_, _, rfl, rfl, h⟩
    · cases h
  · cases h

theorem findNow_mfind {k : IntKind} {n : Int} : ∀ {es : List (AVal × AVal)} {ents : List MapEntry} {i : Nat} {r : Option Nat}, ents.length = es.length →
    (∀ (j : Nat) (a b : AVal), es[j]? = some (a, b) → ∃ e : MapEntry, ents[j]? = some e ∧ VR m a e.key ∧ VR m b e.val) → mfind k n es i = some r →
    (r = none → Instr.findNow (.int k) (.int k n) ents i = some none) ∧ ∀ j, r = some j → i ≤ j ∧ ∃ e b, ents[j - i]? = some e ∧ es[j - i]? = some (.int k n, b) ∧ e.key = .int k n ∧ VR m b e.val ∧ Instr.findNow (.int k) (.int k n) ents i = some (some (j, e.val))
  | [], ents, i, r, hl, _, h => by
    simp only [mfind, Option.some.injEq] at h; subst h
    cases ents with
    | nil => exact ⟨fun _ => rfl, fun j hj => by cases hj⟩
    | cons e ents => simp at hl
  | (a, b) :: es, [], i, r, hl, _, h => by simp at hl
  | (a, b) :: es, e :: ents, i, r, hl, he, h => by
    cases a with
    | int k' n' =>
      simp only [mfind] at h
      split at h
      · rename_i hk; subst hk
        obtain ⟨e', h1, h2, h3⟩ := he 0 _ _ rfl
        simp only [List.getElem?_cons_zero, Option.some.injEq] at h1; subst h1
        simp only [VR] at h2
        have hsame : Instr.sameNow (.int k') (.int k' n) e.key = some (n == n') := by rw [h2]; simp [Instr.sameNow]
        split at h
        · rename_i hn; subst hn
          simp only [Option.some.injEq] at h; subst h
          refine ⟨fun h => (by cases h), fun j hj => ?_⟩
          cases hj
          refine ⟨Nat.le_refl _, e, b, by simp, by simp, h2, h3, ?_⟩
          simp only [Instr.findNow, hsame, beq_self_eq_true]
        · rename_i hn
          have hne : (n == n') = false := by simpa using hn
          obtain ⟨q1, q2⟩ := findNow_mfind (i := i + 1) (ents := ents) (by simpa using hl) (fun j a b hj => by simpa using he (j + 1) a b (by simpa using hj)) h
          refine ⟨fun hr => by simp only [Instr.findNow, hsame, hne]; exact q1 hr, fun j hj => ?_⟩
          obtain ⟨c1, e2, b2, c2, c3, c4, c5, c6⟩ := q2 j hj
          have ej : j - i = (j - (i + 1)) + 1 := by omega
          refine ⟨by omega, e2, b2, by rw [ej, List.getElem?_cons_succ]; exact c2, by rw [ej, List.getElem?_cons_succ]; exact c3, c4, c5, ?_⟩
          simp only [Instr.findNow, hsame, hne]; exact c6
      · cases h
    | _ => simp [mfind] at h

theorem mfind_none {k : IntKind} {n : Int} : ∀ {es : List (AVal × AVal)} {i : Nat}, mfind k n es i = some none → ∀ x ∈ es, ∃ n', x.1 = .int k n' ∧ n ≠ n'
  | [], _, _, x, hx => by cases hx
  | (a, b) :: es, i, h, x, hx => by
    cases a with
    | int k' n' =>
      simp only [mfind] at h
      split at h
      · rename_i hk; subst hk
        split at h
        · cases h
        · rename_i hn
          rcases List.mem_cons.1 hx with rfl | hx
          · exact ⟨n', rfl, hn⟩
          · exact mfind_none h x hx
      · cases h
    | _ => simp [mfind] at h
theorem fresh_key {k : IntKind} {n : Int} {es : List (AVal × AVal)} {ents : Array MapEntry} (g2 : ents.size = es.length) (g3 : ∀ (j : Nat) (a b : AVal), es[j]? = some (a, b) → ∃ e : MapEntry, ents[j]? = some e ∧ VR m a e.key ∧ VR m b e.val) (h : mfind k n es 0 = some none) :
    ∀ x ∈ ents.toList, x.key ≠ .int k n := by
  intro x hx hkey
  obtain ⟨i, hi, hxi⟩ := List.getElem_of_mem hx
  have hi' : i < es.length := by rw [← g2]; simpa using hi
  obtain ⟨e, h1, h2, _⟩ := g3 i es[i].1 es[i].2 (by simp [hi'])
  have hex : e = x := by
    rw [← Array.getElem?_toList, List.getElem?_eq_getElem hi, hxi] at h1; exact (Option.some.inj h1).symm
  obtain ⟨n', h4, h5⟩ := mfind_none h es[i] (List.getElem_mem hi')
  rw [h4, hex, hkey] at h2
  simp only [VR, Value.int.injEq, true_and] at h2
  exact h5 h2

theorem checkKey_int {t : TypeId} {k : IntKind} (ht : P.underlying t = some (.int k)) (b : Bool) (n : Int) (w : World) : (Instr.checkKey b 10000 t (.int k n)).run P w = .ok () w := by
  have h : ∀ N, (Instr.checkKey b (N + 1) t (.int k n)).run P w = .ok () w := fun N => by
    simp only [Instr.checkKey, underlying, Sem.run_bind, run_program, Result.andThen_ok, ht]
    rfl
  exact h 9999
theorem findKey_run {t : TypeId} {k : IntKind} (ht : P.underlying t = some (.int k)) {n : Int} {ents : List MapEntry} {x : Option (Nat × Value)} (h : Instr.findNow (.int k) (.int k n) ents 0 = some x) (w : World) :
    (Instr.findKey t (.int k n) ents).run P w = .ok x w := by
  simp [Instr.findKey, underlying, ht, h]

theorem mget_sound {v : AVal} {cv : Value} {k : IntKind} {n : Int} {K : Option AVal → Option Rt} (hR : R B w0 m σ w) (hv : VR m v cv) (h : mgetK σ v k n K = some r) :
    ∃ (es : Array MapEntry) (x : Option AVal) (y : Option (Nat × Value)), ((cv = .map none ∧ es = #[]) ∨ ∃ b cl, cv = .map (some b) ∧ w.heap[b]? = some (.map es cl)) ∧ Instr.findNow (.int k) (.int k n) es.toList 0 = some y ∧ K x = some r ∧
      ((x = none ∧ y = none) ∨ ∃ a j u, x = some a ∧ y = some (j, u) ∧ VR m a u) := by
  unfold mgetK at h
  split at h
  · simp only [VR] at hv
    exact ⟨#[], none, none, .inl ⟨hv, rfl⟩, rfl, h, .inl ⟨rfl, rfl⟩⟩
  · rename_i l
    simp only [VR] at hv
    obtain ⟨p, hp, rfl⟩ := hv
    split at h
    · rename_i es hg
      obtain ⟨p', hp', ents, cl, g1, g2, g3, g4⟩ := hR.obj l _ hg
      rw [hp] at hp'; cases hp'
      split at h
      · rename_i j hf
        obtain ⟨_, q⟩ := findNow_mfind (m := m) (ents := ents.toList) (by simpa using g2) (fun j a b hj => by simpa using g3 j a b hj) hf
        obtain ⟨_, e, b, c2, c3, c4, c5, c6⟩ := q j rfl
        simp only [Nat.sub_zero] at c3
        rw [c3] at h
        exact ⟨ents, some b, some (j, e.val), .inr ⟨_, cl, rfl, g1⟩, c6, h, .inr ⟨b, j, e.val, rfl, rfl, c5⟩⟩
      · rename_i hf
        obtain ⟨q, _⟩ := findNow_mfind (m := m) (ents := ents.toList) (by simpa using g2) (fun j a b hj => by simpa using g3 j a b hj) hf
        exact ⟨ents, none, none, .inr ⟨_, cl, rfl, g1⟩, q rfl, h, .inl ⟨rfl, rfl⟩⟩
      · cases h
    · cases h
  · cases h

/-- A map's entries turn. -/
theorem R.mapSet {l : Nat} {es es' : List (AVal × AVal)} {p : Pl} {ents ents' : Array MapEntry} {cl cl' : Nat} (hR : R B w0 m σ w) (hpm : w0.pm = false) (hg : σ.get l = some (.map es)) (hm : m l = some p) (hb : w.heap[p.blk]? = some (.map ents cl))
    (hs : ents'.size = es'.length) (he : ∀ (j : Nat) (a b : AVal), es'[j]? = some (a, b) → ∃ e : MapEntry, ents'[j]? = some e ∧ VR m a e.key ∧ VR m b e.val) (hst : MapKept.Stamped ents' cl') :
    R B w0 m (σ.set l (.map es')) { w with heap := w.heap.setIfInBounds p.blk (.map ents' cl') } := by
  have hlt := (hR.dom l p hm).2
  refine R.upd (b := p.blk) (l := l) (o := .map es') (p := p) hR ⟨rfl, rfl, rfl, by simp, fun k hk _ => by simp [Ne.symm hk]⟩ (hR.own hpm l _ p hg rfl hm) (Sub.refl m) (fun _ _ => rfl) hm rfl (by simpa using hlt)
    (fun k q hq => .inl hq) (by simp [Heap.set]) (by simpa [Heap.set] using (hR.dom l p hm).1) (fun k x hk hx => ?_) (by simp [Heap.set]) ⟨ents', cl', by simp [hlt], hs, he, hst⟩
  simp only [Heap.set, if_neg hk] at hx
  exact ⟨hx, fun q hq => Ne.symm (hR.excl l k _ x p q (Ne.symm hk) hg hx hm hq rfl)⟩

theorem setObj_run {b : Nat} {es es' : Array MapEntry} {cl cl' : Nat} (hb : w.heap[b]? = some (.map es cl)) : (setObj b (.map es' cl')).run P w = .ok () { w with heap := w.heap.setIfInBounds b (.map es' cl') } := by
  obtain ⟨h1, h2⟩ := Array.getElem?_eq_some_iff.1 hb
  simp [setObj, Sem.run, h1, h2, Array.setIfInBounds]

theorem mput_sound {t kt et : TypeId} {v x : AVal} {cv cx : Value} {k : IntKind} {n : Int} {K : Heap → Option Rt} (hu : P.underlying t = some (.map kt et)) (hk : P.underlying kt = some (.int k)) (hR : R B w0 m σ w) (hpm : w0.pm = false) (hv : VR m v cv) (hx : VR m x cx)
    (h : mputK σ v k n x K = some r) : ∃ σ' w', (Instr.mapUpdate t cv (.int k n) cx).run P w = .ok () w' ∧ R B w0 m σ' w' ∧ K σ' = some r := by
  unfold mputK at h
  split at h
  · rename_i l
    simp only [VR] at hv
    obtain ⟨p, hp, rfl⟩ := hv
    split at h
    · rename_i es hg
      obtain ⟨p', hp', ents, cl, g1, g2, g3, g4⟩ := hR.obj l _ hg
      rw [hp] at hp'; cases hp'
      split at h
      · rename_i j hf
        obtain ⟨_, q⟩ := findNow_mfind (m := m) (ents := ents.toList) (by simpa using g2) (fun j a b hj => by simpa using g3 j a b hj) hf
        obtain ⟨_, e, b, c2, c3, c4, c5, c6⟩ := q j rfl
        simp only [Nat.sub_zero] at c2 c3
        rw [Array.getElem?_toList] at c2
        refine ⟨_, _, ?_, hR.mapSet hpm hg hp g1 (ents' := ents.modify j fun e => { e with key := .int k n, val := cx }) (cl' := cl) (by simp [g2]) (fun i a b hi => ?_) ?_, h⟩
        · have hkey : (Option.map (fun x => x.key) ents[j]?).getD (Value.int k n) = .int k n := by rw [c2]; simp [c4]
          simp [Instr.mapUpdate, underlying, hu, getObj, Sem.run, g1, checkKey_int hk, findKey_run hk c6, Instr.keyThatStays, Instr.sameBits, setObj_run g1, hkey]
        · rw [List.getElem?_set] at hi
          rw [Array.getElem?_modify]
          by_cases hij : j = i
          · subst hij
            rw [if_pos rfl] at hi
            split at hi
            · cases hi
              exact ⟨_, by rw [if_pos rfl, c2]; rfl, by simp only [VR], hx⟩
            · cases hi
          · rw [if_neg hij] at hi ⊢
            exact g3 i a b hi
        · exact MapKept.stamped_modify g4 _ _ (fun _ _ => rfl) (fun e' _ he' => by rw [c2] at he'; cases he'; exact c4.symm)
      · rename_i hf
        obtain ⟨q, _⟩ := findNow_mfind (m := m) (ents := ents.toList) (by simpa using g2) (fun j a b hj => by simpa using g3 j a b hj) hf
        refine ⟨_, _, ?_, hR.mapSet hpm hg hp g1 (ents' := ents.push { key := .int k n, val := cx, born := cl }) (cl' := cl + 1) (by simp [g2]) (fun i a b hi => ?_) ?_, h⟩
        · simp [Instr.mapUpdate, underlying, hu, getObj, Sem.run, g1, checkKey_int hk, findKey_run hk (q rfl), setObj_run g1]
        · rw [Array.getElem?_push, g2]
          by_cases hie : i = es.length
          · subst hie
            rw [List.getElem?_append_right (Nat.le_refl _), Nat.sub_self] at hi
            simp only [List.getElem?_cons_zero, Option.some.injEq, Prod.mk.injEq] at hi
            obtain ⟨rfl, rfl⟩ := hi
            exact ⟨_, if_pos rfl, by simp only [VR], hx⟩
          · rw [if_neg hie]
            have hlt := (List.getElem?_eq_some_iff.1 hi).1
            simp at hlt
            rw [List.getElem?_append_left (by omega)] at hi
            exact g3 i a b hi
        · exact MapKept.stamped_push g4 (fresh_key g2 g3 hf)
      · cases h
    · cases h
  · cases h

theorem mdel_sound {t kt et u ty : TypeId} {v : AVal} {cv : Value} {k : IntKind} {n : Int} {K : Heap → Option Rt} (hu : P.underlying t = some (.map kt et)) (hk : P.underlying kt = some (.int k)) (hR : R B w0 m σ w) (hpm : w0.pm = false) (hv : VR m v cv)
    (h : mdelK σ v k n K = some r) : ∃ σ' w', (Builtin.delete_ #[t, u] ty #[cv, .int k n]).run P w = .ok (.tuple #[]) w' ∧ R B w0 m σ' w' ∧ K σ' = some r := by
  unfold mdelK at h
  split at h
  · simp only [VR] at hv; subst hv
    exact ⟨σ, w, by simp [Builtin.delete_, underlying, hu, checkKey_int hk], hR, h⟩
  · rename_i l
    simp only [VR] at hv
    obtain ⟨p, hp, rfl⟩ := hv
    split at h
    · rename_i es hg
      obtain ⟨p', hp', ents, cl, g1, g2, g3, g4⟩ := hR.obj l _ hg
      rw [hp] at hp'; cases hp'
      split at h
      · rename_i j hf
        obtain ⟨_, q⟩ := findNow_mfind (m := m) (ents := ents.toList) (by simpa using g2) (fun j a b hj => by simpa using g3 j a b hj) hf
        obtain ⟨_, e, b, c2, c3, c4, c5, c6⟩ := q j rfl
        simp only [Nat.sub_zero] at c2 c3
        rw [Array.getElem?_toList] at c2
        have hj := (Array.getElem?_eq_some_iff.1 c2).1
        refine ⟨_, _, ?_, hR.mapSet hpm hg hp g1 (ents' := ents.eraseIdxIfInBounds j) (cl' := cl) ?_ (fun i a b hi => ?_) ?_, h⟩
        · simp [Builtin.delete_, underlying, hu, getObj, Sem.run, g1, checkKey_int hk, findKey_run hk c6, setObj_run g1]
        · rw [← Array.length_toList, Array.toList_eraseIdxIfInBounds, List.length_eraseIdx, List.length_eraseIdx, Array.length_toList, g2]
        · rw [List.getElem?_eraseIdx] at hi
          have : (ents.eraseIdxIfInBounds j)[i]? = if i < j then ents[i]? else ents[i + 1]? := by
            rw [← Array.getElem?_toList, Array.toList_eraseIdxIfInBounds, List.getElem?_eraseIdx]; simp
          rw [this]
          split at hi
          · rename_i h1; rw [if_pos h1]; exact g3 i a b hi
          · rename_i h1; rw [if_neg h1]; exact g3 (i + 1) a b hi
        · exact MapKept.stamped_erase g4 j
      · rename_i hf
        obtain ⟨q, _⟩ := findNow_mfind (m := m) (ents := ents.toList) (by simpa using g2) (fun j a b hj => by simpa using g3 j a b hj) hf
        refine ⟨_, _, ?_, hR.mapSet hpm hg hp g1 (ents' := ents) (cl' := cl) g2 g3 g4, h⟩
        simp [Builtin.delete_, underlying, hu, getObj, Sem.run, g1, checkKey_int hk, findKey_run hk (q rfl), setObj_run g1]
      · cases h
    · cases h
  · cases h
end
end Go.Proofs.YtgneblbblihaoaaDoor.A
