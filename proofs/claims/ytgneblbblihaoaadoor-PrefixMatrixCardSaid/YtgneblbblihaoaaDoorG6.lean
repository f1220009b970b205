/- Laws whose program has listed variables: errors made by errors.New. -/
import Derived.Test.YtgneblbblihaoaaDoorG4
import Derived.Handed
import Derived.LaidLaws
import Derived.MakeChecks
import Derived.Lay
set_option linter.all false
namespace Go.Proofs.YtgneblbblihaoaaDoor.A
open Go Go.RowKit Go.ChangeShapes

/-- An error's datum. -/
def sntD (b : List UInt8) : DataW Unit := .iface "*errors.errorString" (.ptr (.agg [.lit (.string b)]))
/-- The types of errors.New's errors. -/
structure Snt (P : Program) where
  ti : TypeId
  tp : TypeId
  te : TypeId
  ts : TypeId
  ms : Array (String × TypeId)
  f : Field
  hi : P.underlying ti = some (.interface ms)
  hrow : ∀ u, P.typeName? 3 u = some "*errors.errorString" → u = tp
  hp : P.underlying tp = some (.pointer te)
  he : P.underlying te = some (.struct #[f])
  hft : f.type = ts
  hfo : f.offset = 0
  hs : P.underlying ts = some .string
  hc : P.cellsOf te = 1
  hcs : P.cellsOf ts = 1

/-- Where an error lies. -/
def SntAt (w : World) (tp : TypeId) (g : Nat) (b : List UInt8) (a : Addr) : Prop :=
  ∃ c t c' t', w.heap[g]? = some (.cells c t (0, 0)) ∧ c[0]? = some (.iface tp (.pointer (some a))) ∧ w.heap[a.block]? = some (.cells c' t' (0, 0)) ∧ a.spot = none ∧ c'[a.off]? = some (.string ⟨b.toArray⟩)

variable {P : Program}
theorem snts_of_laid (S : Snt P) {w : World} : ∀ (l : List (String × Nat × List UInt8)) (ps : List MemPlace), DataW.LaidVars P w (l.map fun x => (x.1, sntD x.2.2)) ps →
    (∀ x ∈ l, P.globalNamed x.1 = some x.2.1 ∧ (P.globals[x.2.1]?).map (·.type) = some S.ti) →
    (∀ b off, MemPlace.cell b off ∈ ps → (∃ c t, w.heap[b]? = some (.cells c t (0, 0))) ∧ ∀ u v, w.cell? ⟨b, off, none⟩ = some (.iface u v) → Value.okWide P w .any 0 u v) →
    ∀ x ∈ l, ∃ a, SntAt w S.tp x.2.1 x.2.2 a
  | [], ps, _, _, _, x, hx => by cases hx
  | y :: l, ps, h, hn, hr, x, hx => by
    obtain ⟨g, t, cs, fuel, p, q, hg, ht, hv, hd, hl, rfl⟩ := h
    obtain ⟨n1, n2⟩ := hn y List.mem_cons_self
    obtain rfl := Option.some.inj (n1.symm.trans hg)
    obtain rfl := Option.some.inj (n2.symm.trans ht)
    rcases List.mem_cons.1 hx with rfl | hx
    · obtain ⟨l0⟩ := cs
      have ok0 : ∀ u v, l0 = [.iface u v] → Value.okWide P w .any 0 u v := fun u v e => by
        subst e
        exact (hr x.2.1 0 (by simp [MemPlace.row])).2 u v (by simpa using World.var?_cell hg hv 0)
      obtain ⟨a, s, rfl, hc0, hs0, _, rfl⟩ := errorString_of_trod S.hi S.hrow S.hp S.he S.hft S.hfo S.hs S.hc S.hcs hd ok0
      obtain ⟨c1, e1, fr1, q1, q2, q3⟩ := cell?_cells hc0
      obtain ⟨⟨c2, t2, q4⟩, _⟩ := hr a.block a.off (by simp [MemPlace.row])
      rw [q1] at q4; cases q4
      obtain ⟨⟨c3, t3, q5⟩, _⟩ := hr x.2.1 0 (by simp [MemPlace.row])
      have q6 := World.var?_cell hg hv 0
      obtain ⟨c4, e4, fr4, q7, _, q8⟩ := cell?_cells (w := w) (a := ⟨x.2.1, 0, none⟩) (v := .iface S.tp (.pointer (some a))) (by simpa using q6)
      have q7 : w.heap[x.2.1]? = some (.cells c4 e4 fr4) := q7
      rw [q5] at q7; cases q7
      have hs : s = ⟨x.2.2.toArray⟩ := by
        obtain ⟨d⟩ := s
        have : d.toList = x.2.2 := hs0
        rw [← this]
      exact ⟨a, c3, t3, c1, _, q5, q8, q1, q2, by rw [q3, hs]⟩
    · exact snts_of_laid S l q hl (fun x hx => hn x (List.mem_cons_of_mem _ hx)) (fun b off hb => hr b off (List.mem_append_right _ hb)) x hx

/-- The first objects: the variables, the errors. -/
def heapG (NG : Nat) (tp : TypeId) (gl : List (Nat × List UInt8)) (l : Nat) : Option AObj :=
  if l < NG then (gl.findIdx? fun x => x.1 == l).map fun k => .cells .rz 1 [.ifc tp (.ptr (NG + k) 0)]
  else (gl[l - NG]?).map fun x => .cells .rz 1 [.str ⟨x.2.toArray⟩]
def heapL (NG : Nat) (tp : TypeId) (gl : List (Nat × List UInt8)) (os : List (Pl × List AVal)) : Heap :=
  ⟨NG + gl.length + os.length, fun l => if l < NG + gl.length then heapG NG tp gl l else (os[l - (NG + gl.length)]?).map fun x => .cells .ro x.1.sz x.2⟩

theorem calls_of_specG {NG : Nat} {f : FuncId} {g : List AVal → Heap → Option (Tu [.B] × Heap)} (h : SpecOk P NG f (.eff [.B] g)) {args : List AVal} {cargs : List Value} {σ σ' : Heap} {m : Nat → Option Pl} {W : World}
    (hR : R (fun k => k < W.heap.size) ⟨W, σ.next, m, false⟩ m σ W) (hG : GlobR NG m) (hargs : VRs m args cargs) (hg : g args σ = some (true, σ')) :
    Calls P f cargs.toArray W fun e w' => e = .returned (.bool true) ∧ Below W.heap.size W w' := by
  refine (h.calls _ _ m σ W args cargs (.bool true) σ' (by simp [Spec.run, hg, retV, Kd.val]) hR (fun (h : false = true) => nomatch h) hG hargs).mono ?_
  rintro e w' ⟨m', cv, rfl, _, hR', hv⟩
  simp only [VR] at hv
  subst hv
  exact ⟨rfl, ⟨hR'.below.os, hR'.below.tape, hR'.below.output, hR'.below.size, hR'.below.block⟩⟩

/-- A law that comes to true at all abstract arguments does so in the model. -/
theorem law_callsG {NG : Nat} {f : FuncId} {g : List AVal → Heap → Option (Tu [.B] × Heap)} {α : Type} (h : SpecOk P NG f (.eff [.B] g)) (A : Args P α) (tp : TypeId) (gl : List (Nat × List UInt8))
    (plain : ∀ a as σ, (∀ l o, σ.get l = some o → l < σ.next) → (∀ l, l < NG + gl.length → σ.get l = heapG NG tp gl l) → A.rel σ.get a as → ∃ σ', g as σ = some (true, σ'))
    {H : Type} {enc : TypeId × Value → H} {w : World} {base : Nat} {args : Array Value} {ds : List (DataW H)} {ps : List MemPlace} (ht : DataW.TrodAll enc P w 0 (fun _ => true) true A.ts args.toList ds ps)
    (hok : ∀ (j : Nat) t v, A.ts[j]? = some t → args[j]? = some v → Value.okWide P w .any base t v) (hfit : ∀ k ∈ DataW.weightsEach P A.ts ds, k ≤ reachBytes) (hNG : ∀ k, k < NG → k < w.heap.size) (hgl : ∀ x ∈ gl, ∃ a, SntAt w tp x.1 x.2 a) :
    Calls P f args w fun e w' => e = .returned (.bool true) ∧ Below w.heap.size w w' := by
  obtain ⟨a, as, os, hr⟩ := A.lift enc w base args.toList ds ps (NG + gl.length) ht (fun j t v h1 h2 => hok j t v h1 (by simpa using h2)) hfit
  classical
  let pa : List UInt8 × Nat → Pl := fun x => if h : ∃ a, SntAt w tp x.2 x.1 a then ⟨h.choose.block, h.choose.off, 1, 1⟩ else ⟨0, 0, 0, 0⟩
  let m : Nat → Option Pl := fun l => if l < NG then some ⟨l, 0, 1, 1⟩ else if l < NG + gl.length then (gl[l - NG]?).map fun x => pa (x.2, x.1) else (os[l - (NG + gl.length)]?).map (·.1)
  let σ := heapL NG tp gl os
  have mos : ∀ l, NG + gl.length ≤ l → m l = (os[l - (NG + gl.length)]?).map (·.1) := fun l hl => by simp only [m]; rw [if_neg (by omega), if_neg (by omega)]
  have gos : ∀ l, NG + gl.length ≤ l → σ.get l = (os[l - (NG + gl.length)]?).map fun x => .cells .ro x.1.sz x.2 := fun l hl => by simp only [σ, heapL]; rw [if_neg (by omega)]
  have ggl : ∀ l, l < NG + gl.length → σ.get l = heapG NG tp gl l := fun l hl => by simp only [σ, heapL]; rw [if_pos hl]
  have mg : ∀ l, l < NG → m l = some ⟨l, 0, 1, 1⟩ := fun l hl => by simp only [m]; rw [if_pos hl]
  have ms : ∀ k x, gl[k]? = some x → ∃ a, SntAt w tp x.1 x.2 a ∧ m (NG + k) = some ⟨a.block, a.off, 1, 1⟩ := fun k x hk => by
    have hlt := (List.getElem?_eq_some_iff.1 hk).1
    have hex := hgl x (List.mem_of_getElem? hk)
    refine ⟨hex.choose, hex.choose_spec, ?_⟩
    simp only [m]
    rw [if_neg (by omega), if_pos (by omega), Nat.add_sub_cancel_left, hk]
    simp only [Option.map_some, pa, dif_pos hex]
  obtain ⟨hv, hrel, hob⟩ := hr m σ.get (fun i p cs hi => by
    rw [mos _ (by omega), gos _ (by omega), Nat.add_sub_cancel_left, hi]; exact ⟨rfl, rfl⟩)
  have hlt : ∀ l o, σ.get l = some o → l < σ.next := fun l o hl => by
    show l < NG + gl.length + os.length
    by_cases h1 : l < NG + gl.length
    · omega
    · rw [gos _ (by omega), Option.map_eq_some_iff] at hl
      obtain ⟨x, hx, _⟩ := hl
      have := (List.getElem?_eq_some_iff.1 hx).1; omega
  obtain ⟨σ', hg⟩ := plain a as σ hlt ggl hrel
  have hget : ∀ l o, σ.get l = some o → (∃ p ocs, NG + gl.length ≤ l ∧ os[l - (NG + gl.length)]? = some (p, ocs) ∧ o = .cells .ro p.sz ocs) ∨ (∃ k x, l = x.1 ∧ l < NG ∧ gl[k]? = some x ∧ o = .cells .rz 1 [.ifc tp (.ptr (NG + k) 0)]) ∨
      ∃ k x, l = NG + k ∧ gl[k]? = some x ∧ o = .cells .rz 1 [.str ⟨x.2.toArray⟩] := fun l o hl => by
    by_cases h1 : l < NG + gl.length
    · rw [ggl _ h1] at hl
      unfold heapG at hl
      split at hl
      · rename_i h2
        rw [Option.map_eq_some_iff] at hl
        obtain ⟨k, hk, rfl⟩ := hl
        obtain ⟨hk1, hk2, _⟩ := List.findIdx?_eq_some_iff_getElem.1 hk
        exact .inr (.inl ⟨k, gl[k], by have h5 := hk2; simp at h5; exact h5.symm, h2, by simp, rfl⟩)
      · rename_i h2
        rw [Option.map_eq_some_iff] at hl
        obtain ⟨x, hx, rfl⟩ := hl
        exact .inr (.inr ⟨l - NG, x, by omega, hx, rfl⟩)
    · rw [gos _ (by omega), Option.map_eq_some_iff] at hl
      obtain ⟨⟨p, ocs⟩, hx, rfl⟩ := hl
      exact .inl ⟨p, ocs, by omega, hx, rfl⟩
  have hR : R (fun k => k < w.heap.size) ⟨w, σ.next, m, false⟩ m σ w := by
    refine ⟨fun l o hl => ?_, fun l p hl => ?_, fun l l' o o' p p' _ hl _ _ _ hx => ?_, fun _ l o p hl hrw _ => ?_, Keeps.refl _ _, fun k hk => hk, Nat.le_refl _, fun _ _ => rfl⟩
    · rcases hget l o hl with ⟨p, ocs, h1, hx, rfl⟩ | ⟨k, x, rfl, h1, hx, rfl⟩ | ⟨k, x, rfl, hx, rfl⟩
      · exact ⟨p, by rw [mos _ h1, hx]; rfl, hob p ocs (List.mem_of_getElem? hx)⟩
      · obtain ⟨ad, ⟨c, t, c', t', z1, z2, z3, z4, z5⟩, hm⟩ := ms k x hx
        refine ⟨_, mg _ h1, c, t, (0, 0), z1, fun _ => rfl, rfl, trivial, Nat.le_refl _, (Array.getElem?_eq_some_iff.1 z2).1, fun i y hi => ?_⟩
        cases i with
        | zero =>
          simp only [List.getElem?_cons_zero, Option.some.injEq] at hi; subst hi
          refine ⟨_, z2, ?_, rfl⟩
          simp only [VR]
          refine ⟨_, rfl, _, hm, ?_⟩
          obtain ⟨bl, of, sp⟩ := ad
          simp only at z4; subst z4; rfl
        | succ i => simp at hi
      · obtain ⟨ad, ⟨c, t, c', t', z1, z2, z3, z4, z5⟩, hm⟩ := ms k x hx
        refine ⟨_, hm, c', t', (0, 0), z3, fun _ => rfl, rfl, trivial, Nat.le_refl _, (Array.getElem?_eq_some_iff.1 z5).1, fun i y hi => ?_⟩
        cases i with
        | zero =>
          simp only [List.getElem?_cons_zero, Option.some.injEq] at hi; subst hi
          exact ⟨_, z5, by simp only [VR], rfl⟩
        | succ i => simp at hi
    · show l < NG + gl.length + os.length ∧ _
      by_cases h1 : l < NG
      · rw [mg _ h1] at hl; cases hl; exact ⟨by omega, hNG _ h1⟩
      · by_cases h2 : l < NG + gl.length
        · obtain ⟨ad, ⟨c, t, c', t', z1, z2, z3, z4, z5⟩, hm⟩ := ms (l - NG) _ (List.getElem?_eq_getElem (by omega))
          rw [show NG + (l - NG) = l by omega, hl] at hm; cases hm
          exact ⟨by omega, (Array.getElem?_eq_some_iff.1 z3).1⟩
        · rw [mos _ (by omega), Option.map_eq_some_iff] at hl
          obtain ⟨⟨q, ocs⟩, hx, rfl⟩ := hl
          obtain ⟨c, e, fr, h1, _⟩ := hob q ocs (List.mem_of_getElem? hx)
          have := (List.getElem?_eq_some_iff.1 hx).1
          exact ⟨by omega, (Array.getElem?_eq_some_iff.1 h1).1⟩
    · rcases hget l o hl with ⟨p, ocs, h1, hx2, rfl⟩ | ⟨k, x, rfl, h1, hx2, rfl⟩ | ⟨k, x, rfl, hx2, rfl⟩ <;> cases hx
    · rcases hget l o hl with ⟨p, ocs, h1, hx2, rfl⟩ | ⟨k, x, rfl, h1, hx2, rfl⟩ | ⟨k, x, rfl, hx2, rfl⟩ <;> cases hrw
  have := calls_of_specG (m := m) h hR (fun k hk => ⟨_, mg k hk, rfl, rfl⟩) (by simpa using hv) hg
  simpa using this

/-- As the kit's, and the variables' blocks are there. -/
theorem returnsInHanded_laid {C : Checked} {os : Os} {f : FuncId} {fn : Func} {s : ChangeSpec} {conds : List PathCond} {apart fresh handsOn again : Bool} {X : World → Array Value → Prop} {H : Type} {enc : TypeId × Value → H} (NG : Nat)
    (hX : ∀ (w w' : World) (args : Array Value), w.heap = w'.heap → X w args → X w' args)
    (own : ownKnob C.prog.godebug = none) (started : os.Started) (noInit : C.prog.inits.idxOf? f = none) (hfn : C.prog.funcs[f]? = some fn)
    (hNG : NG ≤ C.prog.globals.size) (hrows : ((List.range NG).all fun g => (((begin C.prog (fun _ _ => 0) default).world.heap[g]?).bind Obj.row?).isSome) = true)
    (witness : ∃ (w : World) (tape : Tape) (i : Input), w.os = os ∧ (w.forCall tape i).Shaped C.prog ∧ i.vars = [] ∧ Input.okWide C.prog (w.forCall tape i) .any w.heap.size f i ∧
      ((s.pre enc C.prog fn conds apart (w.forCall tape i).memory i.args ∧ X (w.forCall tape i).memory i.args) ∧ sizedMet enc C.prog fn (OpenSpec.ofChange s) apart (w.forCall tape i).memory i.args) ∧ ({} : Assume).holds C.prog (lone (Frame.enter C.prog f i.args .normal) [] (w.forCall tape i)))
    (contract : ∀ (W : World) (base : Nat) (args : Array Value) (ds gs : List (DataW H)) (before : List MemPlace),
      (∀ (j : Nat) t v, fn.params[j]? = some t → args[j]? = some v → Value.okWide C.prog W .any base t v) →
      DataW.Whole enc C.prog fn.params.toList s.vars apart W args.toList ds gs before → (DataW.weightsEach C.prog (fn.params.toList ++ s.plain.varTypes C.prog) (ds ++ gs)).all (· ≤ reachBytes) = true → X W args → (∀ k, k < NG → k < W.heap.size) →
      Calls C.prog f args W fun e W' => ∃ v, e = .returned v ∧ s.post enc C.prog fn apart fresh handsOn again W args v W') :
    ReturnsInHanded {} C os f .any (fun w args => (s.pre enc C.prog fn conds apart w args ∧ X w args) ∧ sizedMet enc C.prog fn (OpenSpec.ofChange s) apart w args) (s.post enc C.prog fn apart fresh handsOn again) := by
  refine returnsInHanded_of_calls own started noInit witness ?_
  intro w tape i _ hsh _ hok hpre hholds
  obtain ⟨_, _, _, fn', hfn', _, _, _, _, hval⟩ := hok
  have e : fn' = fn := Option.some.inj (hfn'.symm.trans hfn)
  subst e
  obtain ⟨⟨⟨ds, gs, before, hw, hc⟩, hx⟩, hz⟩ := hpre
  have hw' := DataW.Whole.of_heap (w' := w.forCall tape i) (by rfl) hw
  refine (contract (w.forCall tape i) w.heap.size i.args ds gs before hval hw' (hz.weights hw) (hX _ _ _ (by rfl) hx) fun k hk => ?_).mono fun e W' ⟨v, he, hp⟩ => ?_
  · have := List.all_eq_true.1 hrows k (List.mem_range.2 hk)
    obtain ⟨⟨zero, t⟩, hzt⟩ := Option.isSome_iff_exists.1 this
    obtain ⟨cs, h1, _⟩ := hsh.1 k zero t (by omega) hzt
    exact (Array.getElem?_eq_some_iff.1 h1).1
  · subst he
    exact ChangeSpec.post_blind hp
end Go.Proofs.YtgneblbblihaoaaDoor.A
