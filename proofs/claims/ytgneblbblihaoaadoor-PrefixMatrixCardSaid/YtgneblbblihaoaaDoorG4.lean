/- Arguments: structs, all of a call's. -/
import Derived.Test.YtgneblbblihaoaaDoorG2
set_option linter.all false
namespace Go.Proofs.YtgneblbblihaoaaDoor.A
open Go Go.RowKit Go.ChangeShapes

variable {P : Program} {α β : Type}

theorem Blk.sub {w : World} {cs ds : List Value} (h : Blk w cs) (hs : ∀ v ∈ ds, v ∈ cs) : Blk w ds := fun a len cap hm => h a len cap (hs _ hm)

/-- A struct's fields, one behind the other. -/
structure Fields (P : Program) (α : Type) where
  fs : List (Nat × TypeId)
  size : Nat
  rel : (Nat → Option AObj) → α → List AVal → Prop
  len : ∀ g a as, rel g a as → as.length = size
  mono : ∀ g g' a as, (∀ l o, g l = some o → g' l = some o) → rel g a as → rel g' a as
  lift : ∀ {H : Type} (enc : TypeId × Value → H) (w : World) (fuel : Nat) (cs : List Value) (n : Nat), cs.length = size →
    (∀ o t, (o, t) ∈ fs → ∃ x, DataW.trod enc P w 0 (fun _ => true) true fuel t ((cs.drop o).take (P.cellsOf t)) = some x ∧ InReach P t x.1) → Blk w cs → Lifts w rel cs n

def Fields.one (c : Codec P α) : Fields P α where
  fs := [(0, c.t)]
  size := c.size
  rel := c.rel
  len := c.len
  mono := c.mono
  lift := fun enc w fuel cs n hl h hb => by
    obtain ⟨x, hx, hfx⟩ := h 0 c.t (by simp)
    rw [c.cells, List.drop_zero, List.take_of_length_le (by omega)] at hx
    exact c.lift enc w fuel cs x n hx hfx hb

def Fields.cons (c : Codec P α) (r : Fields P β) : Fields P (α × β) where
  fs := (0, c.t) :: r.fs.map fun x => (x.1 + c.size, x.2)
  size := c.size + r.size
  rel g ab as := c.rel g ab.1 (as.take c.size) ∧ r.rel g ab.2 (as.drop c.size)
  len := fun g ab as h => by
    have h1 := c.len _ _ _ h.1; have h2 := r.len _ _ _ h.2
    simp at h1 h2; have := c.pos; omega
  mono := fun g g' ab as hg h => ⟨c.mono _ _ _ _ hg h.1, r.mono _ _ _ _ hg h.2⟩
  lift := fun enc w fuel cs n hl h hb => by
    obtain ⟨x, hx, hfx⟩ := h 0 c.t List.mem_cons_self
    rw [c.cells, List.drop_zero] at hx
    obtain ⟨a, as, os1, l1, o1, r1⟩ := c.lift enc w fuel (cs.take c.size) x n hx hfx (hb.sub fun v hv => List.mem_of_mem_take hv)
    obtain ⟨b, bs, os2, l2, o2, r2⟩ := r.lift enc w fuel (cs.drop c.size) (n + os1.length) (by simp; omega) (fun o t ht => by
      obtain ⟨y, hy, hfy⟩ := h (o + c.size) t (List.mem_cons_of_mem _ (List.mem_map.2 ⟨(o, t), ht, rfl⟩))
      exact ⟨y, by rw [List.drop_drop, Nat.add_comm]; exact hy, hfy⟩) (hb.sub fun v hv => List.mem_of_mem_drop hv)
    have e1 : as.length = c.size := by rw [l1]; simp; omega
    refine ⟨(a, b), as ++ bs, os1 ++ os2, by rw [List.length_append, l1, l2, ← List.length_append, List.take_append_drop], fun u hu => ?_, fun m get hm => ?_⟩
    · rw [← List.take_append_drop c.size cs, List.mem_append] at hu
      exact hu.elim (o1 u) (o2 u)
    · obtain ⟨v1, q1, b1⟩ := r1 m get hm.left
      obtain ⟨v2, q2, b2⟩ := r2 m get hm.right
      refine ⟨by have := v1.append v2; rwa [List.take_append_drop] at this, ⟨?_, ?_⟩, fun p ocs hp => ?_⟩
      · rw [List.take_append_of_le_length (by omega), List.take_of_length_le (by omega)]; exact q1
      · rw [← e1, List.drop_left]; exact q2
      · rcases List.mem_append.1 hp with hp | hp
        · exact b1 p ocs hp
        · exact b2 p ocs hp

def Codec.struct {t : TypeId} {fs : Array Field} (r : Fields P α) (ht : P.underlying t = some (.struct fs)) (hc : P.cellsOf t = r.size) (hf : fs.toList.map (fun f => (f.offset, f.type)) = r.fs) (hp : 0 < r.size) (hy : 0 < P.bytesOf t) : Codec P α where
  t := t
  size := r.size
  rel := r.rel
  cells := hc
  pos := hp
  byt := hy
  len := r.len
  mono := r.mono
  lift := fun {H} enc w fuel cs x n h hfit hb => by
    obtain ⟨xs, fl, _, hxe, hl, hxs, hfl⟩ := DataW.trod_struct ht h
    subst hxe
    refine r.lift enc w fl cs n (by omega) (fun o t hot => ?_) hb
    rw [← hf, List.mem_map] at hot
    obtain ⟨f, hfm, e⟩ := hot
    cases e
    obtain ⟨i, hi, e⟩ := List.getElem_of_mem hfm
    have hi' : i < fs.size := by simpa using hi
    have := hfl i f (by rw [Array.getElem?_eq_getElem hi']; congr 1)
    refine ⟨xs[i]'(by omega), by rw [this, List.getElem?_eq_getElem (by omega)], fun k hk => hfit k ?_⟩
    simp only [DataW.weights, ht]
    exact weightsEach_mem (i := i) (by rw [List.getElem?_map, List.getElem?_eq_getElem hi, e]; rfl) (by rw [List.getElem?_map, List.getElem?_eq_getElem (by omega)]; rfl) hk

/-- A call's arguments. -/
structure Args (P : Program) (α : Type) where
  ts : List TypeId
  rel : (Nat → Option AObj) → α → List AVal → Prop
  lift : ∀ {H : Type} (enc : TypeId × Value → H) (w : World) (base : Nat) (args : List Value) (ds : List (DataW H)) (ps : List MemPlace) (n : Nat), DataW.TrodAll enc P w 0 (fun _ => true) true ts args ds ps →
    (∀ (j : Nat) t v, ts[j]? = some t → args[j]? = some v → Value.okWide P w .any base t v) → (∀ k ∈ DataW.weightsEach P ts ds, k ≤ reachBytes) →
    ∃ (a : α) (as : List AVal) (os : List (Pl × List AVal)), ∀ m get, Laid m get n os → VRs m as args ∧ rel get a as ∧ ∀ p ocs, (p, ocs) ∈ os → ObjR m p (.cells .ro p.sz ocs) w

def Args.nil : Args P Unit where
  ts := []
  rel _ _ as := as = []
  lift := fun enc w base args ds ps n h _ _ => by
    cases args with
    | nil => exact ⟨(), [], [], fun m get _ => ⟨by simp only [VRs], rfl, fun p ocs hp => (by cases hp)⟩⟩
    | cons v vs => cases ds <;> simp [DataW.TrodAll] at h

theorem blk_of_has {w : World} {base : Nat} {a : Addr} {e : TypeId} {n : Nat} (h : w.has P .any base a e n) : ∃ (b : Nat) (c : Array Value) (e : TypeId) (fr : Nat × Nat), w.heap[b]? = some (.cells c e fr) := by
  obtain ⟨_, _, row, cells, hs, _⟩ := h
  unfold World.shape? at hs
  split at hs
  · rename_i c e fr hb; exact ⟨_, c, e, fr, hb⟩
  · cases hs

theorem blk_cell {w : World} {base : Nat} {t : TypeId} {a : Addr} {len cap : Nat} (h : Cell.okWide P w .any base t (.slice (some a) len cap)) : ∃ (b : Nat) (c : Array Value) (e : TypeId) (fr : Nat × Nat), w.heap[b]? = some (.cells c e fr) := by
  unfold Cell.okWide at h
  split at h <;> first | (rename_i h2; cases h2; done) | (unfold Cell.ok at h; split at h <;> first | (rename_i h2; cases h2; done) | (cases h; done) | skip)
  all_goals first | (exact blk_of_has h.2.2) | skip
  all_goals (rename_i h2; cases h2; exact blk_of_has h.2.2)

theorem blk_slice {w : World} {base : Nat} {t e : TypeId} {v : Value} (ht : P.underlying t = some (.slice e)) (h : Value.okWide P w .any base t v) : Blk w [v] := by
  intro a len cap hm
  simp at hm; subst hm
  simp only [Value.okWide, ht] at h
  exact blk_cell h

theorem blk_struct {w : World} {base : Nat} {t : TypeId} {fs : Array Field} {v : Value} (ht : P.underlying t = some (.struct fs)) (h : Value.okWide P w .any base t v) : ∃ cs, v = .agg cs ∧ Blk w cs.toList := by
  simp only [Value.okWide, ht] at h
  obtain ⟨cs, rfl, _, ts, _, _, hc⟩ := h
  refine ⟨cs, rfl, fun a len cap hm => ?_⟩
  obtain ⟨i, hi, e⟩ := List.getElem_of_mem hm
  have hi' : i < cs.size := by simpa using hi
  obtain ⟨u, _, hu⟩ := hc i (.slice (some a) len cap) (by rw [Array.getElem?_eq_getElem hi']; congr 1)
  exact blk_cell hu

/-- A first argument of one cell. -/
def Args.cons (c : Codec P α) (r : Args P β) (hs : c.size = 1) (hk : (∃ e, P.underlying c.t = some (.slice e)) ∨ (∃ k, P.underlying c.t = some (.int k)) ∨ P.underlying c.t = some .bool) : Args P (α × β) where
  ts := c.t :: r.ts
  rel g ab as := ∃ v vs, as = v :: vs ∧ c.rel g ab.1 [v] ∧ r.rel g ab.2 vs
  lift := fun {H} enc w base args ds ps n h hok hfit => by
    obtain ⟨v, vs, d, ds', p, q, rfl, rfl, rfl, hd, hrest⟩ := trodAll_cons h
    have hf1 : InReach P c.t d := fun k hk => hfit k (by rw [DataW.weightsEach, List.mem_append]; exact .inl hk)
    have hf2 : ∀ k ∈ DataW.weightsEach P r.ts ds', k ≤ reachBytes := fun k hk => hfit k (by rw [DataW.weightsEach, List.mem_append]; exact .inr hk)
    have hok0 := hok 0 c.t v rfl rfl
    obtain ⟨fuel, hf⟩ := hd
    have hv : v.cells.toList = [v] ∧ Blk w [v] := by
      rcases hk with ⟨e, ht⟩ | ⟨k, ht⟩ | ht
      · obtain ⟨a, len, cap, rfl⟩ := WideShapes.okWide_slice ht hok0
        exact ⟨rfl, blk_slice ht hok0⟩
      · obtain ⟨z, rfl⟩ := WideShapes.okWide_int ht hok0
        exact ⟨rfl, fun a len cap hm => by simp at hm⟩
      · obtain ⟨z, rfl⟩ := WideShapes.okWide_bool ht hok0
        exact ⟨rfl, fun a len cap hm => by simp at hm⟩
    rw [hv.1] at hf
    obtain ⟨a, as, os1, l1, o1, r1⟩ := c.lift enc w fuel [v] _ n hf hf1 hv.2
    obtain ⟨b, bs, os2, r2⟩ := r.lift enc w base vs ds' q (n + os1.length) hrest (fun j t u ht hu => hok (j + 1) t u (by simpa using ht) (by simpa using hu)) hf2
    cases as with
    | nil => simp at l1
    | cons x xs =>
      cases xs with
      | cons y ys => simp at l1
      | nil =>
        refine ⟨(a, b), x :: bs, os1 ++ os2, fun m get hm => ?_⟩
        obtain ⟨v1, q1, b1⟩ := r1 m get hm.left
        obtain ⟨v2, q2, b2⟩ := r2 m get hm.right
        refine ⟨VRs.append v1 v2, ⟨x, bs, rfl, q1, q2⟩, fun p ocs hp => ?_⟩
        rcases List.mem_append.1 hp with hp | hp
        · exact b1 p ocs hp
        · exact b2 p ocs hp

/-- A first argument that is a struct. -/
def Args.consS (c : Codec P α) (r : Args P β) (hk : ∃ fs, P.underlying c.t = some (.struct fs)) : Args P (α × β) where
  ts := c.t :: r.ts
  rel g ab as := ∃ v vs, as = .agg v :: vs ∧ c.rel g ab.1 v ∧ r.rel g ab.2 vs
  lift := fun {H} enc w base args ds ps n h hok hfit => by
    obtain ⟨v, vs, d, ds', p, q, rfl, rfl, rfl, hd, hrest⟩ := trodAll_cons h
    have hf1 : InReach P c.t d := fun k hk => hfit k (by rw [DataW.weightsEach, List.mem_append]; exact .inl hk)
    have hf2 : ∀ k ∈ DataW.weightsEach P r.ts ds', k ≤ reachBytes := fun k hk => hfit k (by rw [DataW.weightsEach, List.mem_append]; exact .inr hk)
    obtain ⟨fs, ht⟩ := hk
    obtain ⟨cs, rfl, hb⟩ := blk_struct ht (hok 0 c.t v rfl rfl)
    obtain ⟨fuel, hf⟩ := hd
    obtain ⟨a, as, os1, l1, o1, r1⟩ := c.lift enc w fuel cs.toList _ n hf hf1 hb
    obtain ⟨b, bs, os2, r2⟩ := r.lift enc w base vs ds' q (n + os1.length) hrest (fun j t u ht hu => hok (j + 1) t u (by simpa using ht) (by simpa using hu)) hf2
    refine ⟨(a, b), .agg as :: bs, os1 ++ os2, fun m get hm => ?_⟩
    obtain ⟨v1, q1, b1⟩ := r1 m get hm.left
    obtain ⟨v2, q2, b2⟩ := r2 m get hm.right
    refine ⟨?_, ⟨as, bs, rfl, q1, q2⟩, fun p ocs hp => ?_⟩
    · simp only [VRs, VR]
      exact ⟨_, vs, rfl, ⟨cs.toList, by simp, v1, o1⟩, v2⟩
    · rcases List.mem_append.1 hp with hp | hp
      · exact b1 p ocs hp
      · exact b2 p ocs hp

/-- The first abstract heap of a law. -/
def heapOf (os : List (Pl × List AVal)) : Heap := ⟨os.length, fun l => (os[l]?).map fun x => .cells .ro x.1.sz x.2⟩

/-- A law that comes to true at all abstract arguments does so in the model. -/
theorem law_calls {f : FuncId} {g : List AVal → Heap → Option (Tu [.B] × Heap)} (h : SpecOk P 0 f (.eff [.B] g)) (A : Args P α)
    (plain : ∀ a as σ, (∀ l o, σ.get l = some o → l < σ.next) → A.rel σ.get a as → ∃ σ', g as σ = some (true, σ'))
    {H : Type} {enc : TypeId × Value → H} {w : World} {base : Nat} {args : Array Value} {ds : List (DataW H)} {ps : List MemPlace} (ht : DataW.TrodAll enc P w 0 (fun _ => true) true A.ts args.toList ds ps)
    (hok : ∀ (j : Nat) t v, A.ts[j]? = some t → args[j]? = some v → Value.okWide P w .any base t v) (hfit : ∀ k ∈ DataW.weightsEach P A.ts ds, k ≤ reachBytes) :
    Calls P f args w fun e w' => e = .returned (.bool true) ∧ Below w.heap.size w w' := by
  obtain ⟨a, as, os, hr⟩ := A.lift enc w base args.toList ds ps 0 ht (fun j t v h1 h2 => hok j t v h1 (by simpa using h2)) hfit
  let m : Nat → Option Pl := fun l => (os[l]?).map (·.1)
  obtain ⟨hv, hrel, hob⟩ := hr m (heapOf os).get (fun i p cs hi => by
    rw [Nat.zero_add]; exact ⟨by simp [m, hi], by simp [heapOf, hi]⟩)
  obtain ⟨σ', hg⟩ := plain a as (heapOf os) (fun l o hl => by
    simp only [heapOf, Option.map_eq_some_iff] at hl ⊢
    obtain ⟨x, hx, _⟩ := hl
    exact (List.getElem?_eq_some_iff.1 hx).1) hrel
  have hget : ∀ l o, (heapOf os).get l = some o → ∃ p ocs, os[l]? = some (p, ocs) ∧ o = .cells .ro p.sz ocs := fun l o hl => by
    simp only [heapOf, Option.map_eq_some_iff] at hl
    obtain ⟨⟨p, ocs⟩, hx, rfl⟩ := hl
    exact ⟨p, ocs, hx, rfl⟩
  have hR : R (fun k => k < w.heap.size) ⟨w, (heapOf os).next, m, false⟩ m (heapOf os) w := by
    refine ⟨fun l o hl => ?_, fun l p hl => ?_, fun l l' o o' p p' _ hl _ _ _ hx => ?_, fun _ l o p hl hrw _ => ?_, Keeps.refl _ _, fun k hk => hk, Nat.le_refl _, fun _ _ => rfl⟩
    · obtain ⟨p, ocs, hx, rfl⟩ := hget l o hl
      exact ⟨p, by simp [m, hx], hob p ocs (List.mem_of_getElem? hx)⟩
    · simp only [m, Option.map_eq_some_iff] at hl
      obtain ⟨⟨q, ocs⟩, hx, rfl⟩ := hl
      obtain ⟨c, e, fr, h1, _⟩ := hob q ocs (List.mem_of_getElem? hx)
      exact ⟨(List.getElem?_eq_some_iff.1 hx).1, (Array.getElem?_eq_some_iff.1 h1).1⟩
    · obtain ⟨p, ocs, hx2, rfl⟩ := hget l o hl
      cases hx
    · obtain ⟨p, ocs, hx2, rfl⟩ := hget l o hl
      cases hrw
  have := calls_of_spec (m := m) h hR (by simpa using hv) hg
  simpa using this

theorem trodAll_below {H : Type} {enc : TypeId × Value → H} (hl : laidOutB P = true) {w w' : World} (hb : Below w.heap.size w w') : ∀ {ts : List TypeId} {args : List Value} {ds : List (DataW H)} {ps : List MemPlace},
    (∀ t ∈ ts, P.readableRec t = true ∧ t < P.types.size) → DataW.TrodAll enc P w 0 (fun _ => true) true ts args ds ps → (∀ x ∈ ps, x.block < w.heap.size) →
    DataW.TrodAll enc P w' 0 (fun b => decide (b < w.heap.size)) true ts args ds ps
  | [], args, ds, ps, _, h, _ => by
    cases args with
    | nil => cases ds with
      | nil => simpa [DataW.TrodAll] using h
      | cons d ds => simp [DataW.TrodAll] at h
    | cons v vs => cases ds <;> simp [DataW.TrodAll] at h
  | t :: ts, args, ds, ps, ht, h, hlt => by
    cases args with
    | nil => simp [DataW.TrodAll] at h
    | cons v vs =>
      cases ds with
      | nil => simp [DataW.TrodAll] at h
      | cons d ds =>
        obtain ⟨p, q, hd, hr, rfl⟩ := h
        obtain ⟨t1, t2⟩ := ht t List.mem_cons_self
        exact ⟨p, q, Below.trod hl t1 t2 hd hb (fun x hx => hlt x (List.mem_append_left _ hx)), trodAll_below hl hb (fun t h => ht t (List.mem_cons_of_mem _ h)) hr (fun x hx => hlt x (List.mem_append_right _ hx)), rfl⟩
end Go.Proofs.YtgneblbblihaoaaDoor.A
