/- Parts of the proof, one behind another. -/
import Derived.Lib.SlKeysI
import Derived.Test.YtgneblbblihaoaaDoorX1
import Derived.Test.YtgneblbblihaoaaDoorX0
set_option linter.all false
/- The keys of a map, sorted: the two steps' soundness, from the contracts of maps.Keys and slices.Sorted. -/
namespace Go.Proofs.YtgneblbblihaoaaDoor.A
open Go Go.RowKit Go.Sort

def KeysBoxes (P : Program) (f K : FuncId) : Prop := ∃ t, ∀ (b : Nat) (w : World), Calls P f #[.map (some b)] w fun e w' =>
  e = .returned (.func (.func K) #[] #[.pointer (some ⟨w.heap.size, 0, none⟩)]) ∧ w' = w.alloc (.cells #[.map (some b)] t)
/-- The contract of slices.Sorted over that function. -/
def SortsKeys (P : Program) (f K : FuncId) : Prop := ∃ kt, P.underlying kt = some (.int .i64) ∧ ∀ (Bm b nn : Nat) (D0 : DataW Unit) (R : Value → Option (DataW Unit × List MemPlace)) (w : World),
  Bm < w.heap.size → w.cell? ⟨Bm, 0, none⟩ = some (.map (some b)) → w.ownsMap P kt R b nn D0 → Maps.size D0 ≤ maxLen → Maps.size D0 * 8 ≤ 140737488355328 →
  Calls P f #[.func (.func K) #[] #[.pointer (some ⟨Bm, 0, none⟩)]] w fun e w' => ∃ (v : Value) (ss : List Int), e = .returned v ∧ ss.Perm (intKeys D0) ∧
    w'.ownsRow w.heap.size kt 1 v ss.length ((ss.mergeSort fun x y => decide (x ≤ y)).map encZ) ∧ (v = .slice none 0 0 ↔ ss = []) ∧ Below w.heap.size w w'

theorem specOk_keys {P : Program} {NG : Nat} {f K : FuncId} (hc : KeysBoxes P f K) (he : ∃ fn, P.funcs[f]? = some fn ∧ (fn.name == "runtime.NumGoroutine") = false ∧ fn.body.isNone = false) :
    SpecOk P NG f (.eff [.V] fun args σ => packs args [.V] fun x => keysS K x σ) := by
  have key : ∀ args σ v σ', Spec.run (.eff [.V] fun args σ => packs args [.V] fun x => keysS K x σ) args σ = some (v, σ') →
      ∃ l o, args = [.map l] ∧ σ.get l = some o ∧ v = .fn (.func K) [] [.box σ.next] ∧ σ' = σ.new (.cells .rw 1 [.map l]) := by
    intro args σ v σ' h
    simp only [Spec.run] at h
    rcases args with _ | ⟨x, _ | ⟨y, l⟩⟩
    · simp [packs] at h
    · simp only [packs, asK] at h
      unfold keysS at h
      split at h
      · split at h
        · simp only [Option.map_some, Option.some.injEq, Prod.mk.injEq] at h
          exact ⟨_, _, rfl, by assumption, h.1.symm, h.2.symm⟩
        · cases h
      · cases h
    · simp [packs] at h
  refine ⟨he, fun B w0 m σ w args cargs v σ' hg hR hpm hG hargs => ?_, fun args σ v σ' hg => ?_, fun ks g h => by cases h⟩
  · obtain ⟨l, o, rfl, hl, rfl, rfl⟩ := key _ _ _ _ hg
    simp only [VRs] at hargs
    obtain ⟨cv, vs', rfl, hv, rfl⟩ := hargs
    simp only [VR] at hv
    obtain ⟨p, hm, rfl⟩ := hv
    obtain ⟨t, hc⟩ := hc
    refine (hc p.blk w).mono fun e1 w1 ⟨h1, h2⟩ => ?_
    subst h1 h2
    refine ⟨mset m σ.next ⟨w.heap.size, 0, 1, 1⟩, _, rfl, Sub.mset hR.fresh _, hR.new _ ⟨w.heap.size, 0, 1, 1⟩ _ w.drawn rfl ⟨#[.map (some p.blk)], t, (0, 0), by simp, fun _ => rfl, rfl, trivial, by simp, by simp, fun i a hi => ?_⟩, ?_⟩
    · cases i with
      | zero =>
        simp only [List.getElem?_cons_zero, Option.some.injEq] at hi; subst hi
        exact ⟨.map (some p.blk), by simp, by simp only [VR]; exact ⟨p, Sub.mset hR.fresh _ _ _ hm, rfl⟩, rfl⟩
      | succ i => simp at hi
    · simp only [VR, VRs]
      exact ⟨[], [.pointer (some ⟨w.heap.size, 0, none⟩)], rfl, rfl, _, [], rfl, ⟨_, mset_self _ _, rfl, rfl⟩, rfl⟩
  · obtain ⟨l, o, _, _, _, rfl⟩ := key _ _ _ _ hg
    exact Grw.new rfl

/-- Blocks below stay, a new one holds a new object. -/
theorem R.fresh_obj {B : Nat → Prop} {w0 : Base} {m : Nat → Option Pl} {σ : Heap} {w w' : World} (hR : R B w0 m σ w) (hb : Below w.heap.size w w') (o : AObj) (p : Pl) (hp : w.heap.size ≤ p.blk) (hp' : p.blk < w'.heap.size) (ho : ObjR (mset m σ.next p) p o w') :
    R B w0 (mset m σ.next p) (σ.new o) w' := by
  have U : Upd p.blk w w' := ⟨hb.os, hb.tape, hb.output, hb.size, fun k _ hk => hb.block k hk⟩
  refine R.upd (b := p.blk) (l := σ.next) (o := o) (p := p) hR U (fun h => absurd (hR.base _ h) (by omega)) (Sub.mset hR.fresh p) (fun k hk => mset_old m p k (Nat.lt_of_lt_of_le hk hR.oldn)) (by simp [mset]) rfl hp' (fun k q hq => ?_) (by simp [Heap.new]) (by simp [Heap.new])
    (fun k x hk hx => ?_) (by simp [Heap.new]) ho
  · unfold A.mset at hq
    by_cases e : k = σ.next
    · rw [if_pos e] at hq; cases hq; exact .inr ⟨e, rfl⟩
    · rw [if_neg e] at hq; exact .inl hq
  · simp only [Heap.new, if_neg hk] at hx
    exact ⟨hx, fun q hq => by have := (hR.dom k q hq).2; omega⟩
/-- Blocks below stay. -/
theorem R.below_same {B : Nat → Prop} {w0 : Base} {m : Nat → Option Pl} {σ : Heap} {w w' : World} (hR : R B w0 m σ w) (hb : Below w.heap.size w w') : R B w0 m σ w' :=
  ⟨fun l o h => let ⟨p, h1, h2⟩ := hR.obj l o h; ⟨p, h1, h2.mono (Sub.refl m) (hb.block _ (hR.dom l p h1).2)⟩, fun l p h => ⟨(hR.dom l p h).1, Nat.lt_of_lt_of_le (hR.dom l p h).2 hb.size⟩, hR.excl, hR.own,
    ⟨hb.os.trans hR.below.os, hb.tape.trans hR.below.tape, hb.output.trans hR.below.output, Nat.le_trans hR.below.size hb.size, fun k hk => (hb.block k (hR.base k hk)).trans (hR.below.block k hk)⟩,
    fun k hk => Nat.lt_of_lt_of_le (hR.base k hk) hb.size, hR.oldn, hR.old⟩

theorem specOk_sortedKeys {P : Program} {NG : Nat} {f K : FuncId} (hc : SortsKeys P f K) (he : ∃ fn, P.funcs[f]? = some fn ∧ (fn.name == "runtime.NumGoroutine") = false ∧ fn.body.isNone = false) :
    SpecOk P NG f (.eff [.V] fun args σ => packs args [.V] fun x => sortedKeysS K x σ) := by
  have key : ∀ args σ v σ', Spec.run (.eff [.V] fun args σ => packs args [.V] fun x => sortedKeysS K x σ) args σ = some (v, σ') →
      ∃ l b es zs, args = [.fn (.func K) [] [.box l]] ∧ σ.get l = some (.cells .rw 1 [.map b]) ∧ σ.get b = some (.map es) ∧ es.map (·.1) = zs.map (.int .i64) ∧ zs.length ≤ 1099511627776 ∧ zs.all inI64 = true ∧
        ((zs = [] ∧ v = .nils ∧ σ' = σ) ∨ (zs ≠ [] ∧ v = .sl σ.next 0 zs.length none ∧ σ' = σ.new (.cells .rw 1 ((sorted zs).map (.int .i64))))) := by
    intro args σ v σ' h
    simp only [Spec.run] at h
    rcases args with _ | ⟨x, _ | ⟨y, l⟩⟩
    · simp [packs] at h
    · simp only [packs, asK] at h
      unfold sortedKeysS at h
      split at h
      · rename_i k l
        split at h
        · rename_i hk; subst hk
          split at h
          · rename_i b hl
            split at h
            · rename_i es hb
              split at h
              · rename_i zs hz
                split at h
                · rename_i hcond
                  split at h
                  · simp only [Option.map_some, Option.some.injEq, Prod.mk.injEq] at h
                    exact ⟨_, _, es, [], rfl, hl, hb, intsL_spec hz, by simp, rfl, .inl ⟨rfl, h.1.symm, h.2.symm⟩⟩
                  · rename_i hne
                    simp only [Option.map_some, Option.some.injEq, Prod.mk.injEq] at h
                    exact ⟨_, _, es, zs, rfl, hl, hb, intsL_spec hz, hcond.1, hcond.2, .inr ⟨fun e => hne e, h.1.symm, h.2.symm⟩⟩
                · cases h
              · cases h
            · cases h
          · cases h
        · cases h
      · cases h
    · simp [packs] at h
  refine ⟨he, fun B w0 m σ w args cargs v σ' hg hR hpm hG hargs => ?_, fun args σ v σ' hg => ?_, fun ks g h => by cases h⟩
  · obtain ⟨l, b, es, zs, rfl, hl, hb, hz, hlen, hin, hres⟩ := key _ _ _ _ hg
    simp only [VRs, VR] at hargs
    obtain ⟨cv, vs', rfl, ⟨fa, fb, rfl, rfl, c1, c2, rfl, ⟨p, hm, hst, rfl⟩, rfl⟩, rfl⟩ := hargs
    obtain ⟨p', hm', cc, e, fr, g1, g2, g3, g4, g5, g6, g7⟩ := hR.obj l _ hl
    rw [hm] at hm'; cases hm'
    have hfr := g2 rfl; subst hfr
    obtain ⟨v0, k1, k2, _⟩ := g7 0 _ rfl
    simp only [VR] at k2
    obtain ⟨q, hq, rfl⟩ := k2
    obtain ⟨q', hq', ents, cl, j1, j2, j3, j4⟩ := hR.obj b _ hb
    rw [hq] at hq'; cases hq'
    obtain ⟨kt, hkt, hc⟩ := hc
    have hcell : w.cell? ⟨p.blk, 0, none⟩ = some (.map (some q.blk)) := by
      simp only [World.cell?, g1]
      rw [hst] at k1
      simpa using k1
    -- the entries' keys
    have hkeys : ents.toList.map (·.key) = zs.map encZ := by
      refine List.ext_getElem? fun i => ?_
      have h1 : (es.map (·.1))[i]? = (zs.map (AVal.int .i64))[i]? := by rw [hz]
      simp only [List.getElem?_map] at h1 ⊢
      cases hz1 : zs[i]? with
      | none =>
        rw [hz1] at h1
        cases he1 : es[i]? with
        | none =>
          have : ents.toList[i]? = none := by
            rw [List.getElem?_eq_none_iff] at he1 ⊢; simpa [j2] using he1
          rw [this]; rfl
        | some x => rw [he1] at h1; cases h1
      | some n =>
        rw [hz1] at h1
        cases he1 : es[i]? with
        | none => rw [he1] at h1; cases h1
        | some x =>
          rw [he1] at h1
          simp only [Option.map_some, Option.some.injEq] at h1
          obtain ⟨en, h2, h3, _⟩ := j3 i x.1 x.2 (by rw [he1])
          rw [h1] at h3; simp only [VR] at h3
          rw [Array.getElem?_toList, h2]
          simp [h3]
    have hwf : ∀ x ∈ ents.toList, ∃ n, x.key = encZ n ∧ n ∈ zs ∧ (Lit.int .i64 n).wf = true := by
      intro x hx
      have : x.key ∈ zs.map encZ := by rw [← hkeys]; exact List.mem_map.2 ⟨x, hx, rfl⟩
      obtain ⟨n, hn, h2⟩ := List.mem_map.1 this
      refine ⟨n, h2.symm, hn, ?_⟩
      have := List.all_eq_true.1 hin n hn
      simp only [inI64, Bool.and_eq_true, decide_eq_true_eq] at this
      have hmin : IntKind.min .i64 = -9223372036854775808 := by decide
      have hmax : IntKind.max .i64 = 9223372036854775807 := by decide
      simp only [Lit.wf, hmin, hmax, Bool.and_eq_true, decide_eq_true_eq]; exact this
    let R0 : Value → Option (DataW Unit × List MemPlace) := fun _ => some (.nil, [])
    have hrd : ∀ x ∈ ents.toList, ∃ n, x.key = encZ n ∧ WideElems.rd P kt R0 x = some (.int .i64 n, .nil) := by
      intro x hx
      obtain ⟨n, h1, _, h2⟩ := hwf x hx
      refine ⟨n, h1, ?_⟩
      have hko : keyOf P kt x.key = some (.int .i64 n) := by
        rw [h1]; simp only [keyOf, hkt, mapKey, encZ]; simp [h2]
      obtain ⟨xk, xv, xb⟩ := x
      exact WideElems.rd_mk (R := R0) (yv := (.nil, [])) hko rfl
    have hsz : ents.size = zs.length := by have := congrArg List.length hkeys; simpa using this
    have hown : w.ownsMap P kt R0 q.blk ents.size (.map ((ents.toList.map (WideElems.rg P kt R0)).foldr DataW.insert [])) :=
      ⟨ents, cl, j1, ⟨by rw [hsz]; unfold maxLen; omega, j4, fun x hx => by obtain ⟨n, _, h2⟩ := hrd x hx; exact ⟨_, h2⟩⟩, Nat.le_refl _, rfl⟩
    have hperm : (intKeys (.map ((ents.toList.map (WideElems.rg P kt R0)).foldr DataW.insert []))).Perm zs := by
      have h1 := (WideShapes.sorted_perm (ents.toList.map (WideElems.rg P kt R0))).map fun p => intOf p.1
      refine h1.trans (List.Perm.of_eq ?_)
      rw [List.map_map]
      have : (ents.toList.map fun x => x.key).map (fun k => match k with | .int _ n => n | _ => 0) = zs := by
        rw [hkeys, List.map_map]; exact List.map_id _
      rw [List.map_map] at this
      rw [← this]
      refine List.map_congr_left fun x hx => ?_
      obtain ⟨n, h1, h2⟩ := hrd x hx
      simp only [Function.comp, WideElems.rg_of h2, intOf, h1, encZ]
    have hsize : Maps.size (.map ((ents.toList.map (WideElems.rg P kt R0)).foldr DataW.insert [])) = zs.length := by
      have := hperm.length_eq; simpa [intKeys, Maps.size] using this
    refine (hc p.blk q.blk ents.size _ R0 w (hR.dom l p hm).2 hcell hown (by rw [hsize]; unfold maxLen; omega) (by rw [hsize]; omega)).mono fun e1 w1 h1 => ?_
    obtain ⟨v1, ss, rfl, hs, hrow, hnil, hbl⟩ := h1
    have hsz2 : ss.mergeSort (fun x y => decide (x ≤ y)) = sorted zs := mergeSort_of_perm_i (hs.trans hperm)
    have hssl : ss.length = zs.length := (hs.trans hperm).length_eq
    rcases hres with ⟨hz0, rfl, rfl⟩ | ⟨hz0, rfl, rfl⟩
    · have : ss = [] := List.eq_nil_of_length_eq_zero (by rw [hssl, hz0]; rfl)
      exact ⟨m, _, rfl, Sub.refl m, hR.below_same hbl, by simp only [VR]; exact hnil.2 this⟩
    · have hss : ss ≠ [] := fun e => hz0 (List.eq_nil_of_length_eq_zero (by rw [← hssl, e]; rfl))
      rcases hrow.2 with ⟨h1, h2⟩ | ⟨g, cap, cur, rfl, q1, q2, q3, q4, q5, q6⟩
      · exact absurd (hnil.1 h1) hss
      · have hgl : g < w1.heap.size := (Array.getElem?_eq_some_iff.1 q2).1
        rw [hssl] at q3 q6
        rw [hsz2] at q6
        have hsl := sorted_len zs
        refine ⟨mset m σ.next ⟨g, 0, cap, 1⟩, _, rfl, Sub.mset hR.fresh _, hR.fresh_obj hbl _ ⟨g, 0, cap, 1⟩ q1 hgl ⟨cur, kt, (0, 0), q2, fun _ => rfl, rfl, trivial, by simp [hsl]; omega, by simp [q5], fun i a hi => ?_⟩, ?_⟩
        · simp only [List.getElem?_map, Option.map_eq_some_iff] at hi
          obtain ⟨n, hn, rfl⟩ := hi
          have hlt : i < zs.length := by have := (List.getElem?_eq_some_iff.1 hn).1; omega
          refine ⟨encZ n, ?_, by simp only [VR, encZ], rfl⟩
          have h3 : (cur.toList.take (zs.length * 1))[i]? = ((sorted zs).map encZ)[i]? := by rw [q6]
          rw [List.getElem?_take_of_lt (by omega)] at h3
          simp only [Nat.zero_add]
          rw [← Array.getElem?_toList, h3]; simp [hn]
        · simp only [VR]
          refine ⟨_, cap, ⟨g, 0, none⟩, mset_self _ _, fun _ => by simp, fun k hk => (by cases hk), q3, fun _ => by simp, by rw [hssl]⟩
  · obtain ⟨l, b, es, zs, _, _, _, _, _, _, h⟩ := key _ _ _ _ hg
    rcases h with ⟨_, _, rfl⟩ | ⟨_, _, rfl⟩
    · exact Grw.refl _
    · exact Grw.new rfl
end Go.Proofs.YtgneblbblihaoaaDoor.A
