/- Arguments: what a law's arguments are, as an abstract heap of others' objects. -/
import Derived.Test.YtgneblbblihaoaaDoorG0
import GoSem.ClaimJoined
set_option linter.all false
namespace Go.Proofs.YtgneblbblihaoaaDoor.A
open Go Go.RowKit

/-- The objects stand from n on. -/
def Laid (m : Nat → Option Pl) (get : Nat → Option AObj) (n : Nat) (os : List (Pl × List AVal)) : Prop := ∀ i p cs, os[i]? = some (p, cs) → m (n + i) = some p ∧ get (n + i) = some (.cells .ro p.sz cs)
theorem Laid.left {m : Nat → Option Pl} {get : Nat → Option AObj} {n : Nat} {a b : List (Pl × List AVal)} (h : Laid m get n (a ++ b)) : Laid m get n a :=
  fun i p cs hi => h i p cs (by rw [List.getElem?_append_left (List.getElem?_eq_some_iff.1 hi).1]; exact hi)
theorem Laid.right {m : Nat → Option Pl} {get : Nat → Option AObj} {n : Nat} {a b : List (Pl × List AVal)} (h : Laid m get n (a ++ b)) : Laid m get (n + a.length) b :=
  fun i p cs hi => by
    have := h (a.length + i) p cs (by rw [List.getElem?_append_right (by omega), Nat.add_sub_cancel_left]; exact hi)
    rw [Nat.add_assoc]; exact this

/-- There is a block of cells. -/
def Blk (w : World) (cs : List Value) : Prop := ∀ a len cap, Value.slice (some a) len cap ∈ cs → ∃ (b : Nat) (c : Array Value) (e : TypeId) (fr : Nat × Nat), w.heap[b]? = some (.cells c e fr)

/-- Each string, slice and map is as large as memory may be, at most. -/
def InReach {H : Type} (P : Program) (t : TypeId) (d : DataW H) : Prop := ∀ k ∈ d.weights P t, k ≤ reachBytes
theorem weightsAll_mem {H : Type} {P : Program} {e : TypeId} {k : Nat} : ∀ {ds : List (DataW H)} {d : DataW H}, d ∈ ds → k ∈ d.weights P e → k ∈ DataW.weightsAll P e ds
  | d' :: ds, d, h, hk => by
    rw [DataW.weightsAll, List.mem_append]
    rcases List.mem_cons.1 h with rfl | h
    · exact .inl hk
    · exact .inr (weightsAll_mem h hk)
theorem weightsEach_mem {H : Type} {P : Program} {k : Nat} : ∀ {ts : List TypeId} {ds : List (DataW H)} {i : Nat} {t : TypeId} {d : DataW H}, ts[i]? = some t → ds[i]? = some d → k ∈ d.weights P t → k ∈ DataW.weightsEach P ts ds
  | [], _, i, t, d, h, _, _ => by simp at h
  | _ :: _, [], i, t, d, _, h, _ => by simp at h
  | t' :: ts, d' :: ds, 0, t, d, h1, h2, hk => by
    simp at h1 h2; subst h1 h2
    rw [DataW.weightsEach, List.mem_append]; exact .inl hk
  | t' :: ts, d' :: ds, i + 1, t, d, h1, h2, hk => by
    simp at h1 h2
    rw [DataW.weightsEach, List.mem_append]; exact .inr (weightsEach_mem h1 h2 hk)

/-- What a reading's cells come to: data, abstract cells, objects. -/
def Lifts {α : Type} (w : World) (rel : (Nat → Option AObj) → α → List AVal → Prop) (cs : List Value) (n : Nat) : Prop :=
  ∃ (a : α) (as : List AVal) (os : List (Pl × List AVal)), as.length = cs.length ∧ (∀ u ∈ cs, u.oneCell' = true) ∧
    ∀ m get, Laid m get n os → VRs m as cs ∧ rel get a as ∧ ∀ p ocs, (p, ocs) ∈ os → ObjR m p (.cells .ro p.sz ocs) w

structure Codec (P : Program) (α : Type) where
  t : TypeId
  size : Nat
  rel : (Nat → Option AObj) → α → List AVal → Prop
  cells : P.cellsOf t = size
  pos : 0 < size
  byt : 0 < P.bytesOf t
  len : ∀ g a as, rel g a as → as.length = size
  mono : ∀ g g' a as, (∀ l o, g l = some o → g' l = some o) → rel g a as → rel g' a as
  lift : ∀ {H : Type} (enc : TypeId × Value → H) (w : World) (fuel : Nat) (cs : List Value) (x : DataW H × List MemPlace) (n : Nat), DataW.trod enc P w 0 (fun _ => true) true fuel t cs = some x → InReach P t x.1 → Blk w cs → Lifts w rel cs n

variable {P : Program} {α : Type}

def Codec.int {t : TypeId} {k : IntKind} (ht : P.underlying t = some (.int k)) (hc : P.cellsOf t = 1) (hy : 0 < P.bytesOf t) : Codec P Int where
  t := t
  size := 1
  rel _ a as := as = [.int k a] ∧ k.min ≤ a ∧ a ≤ k.max
  cells := hc
  pos := Nat.one_pos
  byt := hy
  len := fun _ _ _ h => by rw [h.1]; rfl
  mono := fun _ _ _ _ _ h => h
  lift := fun enc w fuel cs x n h _ _ => by
    obtain ⟨a, rfl, _, hw⟩ := DataW.trod_int ht h
    simp only [Lit.wf, Bool.and_eq_true, decide_eq_true_eq] at hw
    exact ⟨a, [.int k a], [], rfl, fun u hu => by simp at hu; subst hu; rfl, fun m get _ => ⟨by simp only [VRs, VR]; exact ⟨_, _, rfl, rfl, rfl⟩, ⟨rfl, hw⟩, fun p ocs hp => (by cases hp)⟩⟩

def Codec.bool {t : TypeId} (ht : P.underlying t = some .bool) (hc : P.cellsOf t = 1) (hy : 0 < P.bytesOf t) : Codec P Bool where
  t := t
  size := 1
  rel _ a as := as = [.bool a]
  cells := hc
  pos := Nat.one_pos
  byt := hy
  len := fun _ _ _ h => by rw [h]; rfl
  mono := fun _ _ _ _ _ h => h
  lift := fun enc w fuel cs x n h _ _ => by
    obtain ⟨a, rfl, _⟩ := DataW.trod_bool ht h
    exact ⟨a, [.bool a], [], rfl, fun u hu => by simp at hu; subst hu; rfl, fun m get _ => ⟨by simp only [VRs, VR]; exact ⟨_, _, rfl, rfl, rfl⟩, rfl, fun p ocs hp => (by cases hp)⟩⟩

theorem cells?_spec {w : World} {a : Addr} {n : Nat} {cs : List Value} (h : w.cells? 0 a n = some cs) : cs.length = n ∧ ∀ i, i < n → w.cell? (a.add i) = cs[i]? := by
  unfold World.cells? at h
  rw [if_pos (Nat.zero_le _)] at h
  have hl := mapM_some_length h
  refine ⟨by simpa using hl, fun i hi => ?_⟩
  exact mapM_some_get h i i (by simp [hi])

theorem cell?_cells {w : World} {a : Addr} {v : Value} (h : w.cell? a = some v) : ∃ c e fr, w.heap[a.block]? = some (.cells c e fr) ∧ a.spot = none ∧ c[a.off]? = some v := by
  unfold World.cell? at h
  split at h
  · rename_i c e fr hb
    split at h
    · cases h
    · rename_i hs; exact ⟨c, e, fr, hb, by simpa using hs, h⟩
  · cases h

/-- The elements of a slice, one behind the other. -/
theorem lift_all (c : Codec P α) {H : Type} (enc : TypeId × Value → H) (w : World) (fuel : Nat) : ∀ (css : List (List Value)) (n : Nat), (∀ cs ∈ css, (∃ x, DataW.trod enc P w 0 (fun _ => true) true fuel c.t cs = some x ∧ InReach P c.t x.1) ∧ Blk w cs ∧ cs.length = c.size) →
    ∃ (xs : List α) (ass : List (List AVal)) (os : List (Pl × List AVal)), xs.length = css.length ∧ ass.length = css.length ∧ (∀ as ∈ ass, as.length = c.size) ∧ (∀ u ∈ css.flatten, u.oneCell' = true) ∧
      ∀ m get, Laid m get n os → VRs m ass.flatten css.flatten ∧ (∀ (i : Nat) a as, xs[i]? = some a → ass[i]? = some as → c.rel get a as) ∧ ∀ p ocs, (p, ocs) ∈ os → ObjR m p (.cells .ro p.sz ocs) w
  | [], n, _ => ⟨[], [], [], rfl, rfl, fun _ h => (by cases h), fun _ h => (by cases h), fun m get _ => ⟨by simp [VRs], fun i a as h => by simp at h, fun p ocs h => (by cases h)⟩⟩
  | cs :: css, n, h => by
    obtain ⟨⟨x, hx, hfx⟩, hb, hl⟩ := h cs List.mem_cons_self
    obtain ⟨a, as, os1, l1, o1, r1⟩ := c.lift enc w fuel cs x n hx hfx hb
    obtain ⟨xs, ass, os2, l2, l3, l4, o2, r2⟩ := lift_all c enc w fuel css (n + os1.length) (fun cs' h' => h cs' (List.mem_cons_of_mem _ h'))
    refine ⟨a :: xs, as :: ass, os1 ++ os2, by simp [l2], by simp [l3], fun b hb => ?_, fun u hu => ?_, fun m get hm => ?_⟩
    · rcases List.mem_cons.1 hb with rfl | hb
      · rw [l1, hl]
      · exact l4 b hb
    · rw [List.flatten_cons, List.mem_append] at hu
      exact hu.elim (o1 u) (o2 u)
    · obtain ⟨v1, q1, b1⟩ := r1 m get hm.left
      obtain ⟨v2, q2, b2⟩ := r2 m get hm.right
      refine ⟨by rw [List.flatten_cons, List.flatten_cons]; exact v1.append v2, fun i a' as' h1 h2 => ?_, fun p ocs hp => ?_⟩
      · cases i with
        | zero => simp at h1 h2; subst h1 h2; exact q1
        | succ i => simp at h1 h2; exact q2 i a' as' h1 h2
      · rcases List.mem_append.1 hp with hp | hp
        · exact b1 p ocs hp
        · exact b2 p ocs hp

theorem flatten_get {α : Type} (k : Nat) : ∀ (ass : List (List α)) (i j : Nat) (as : List α), (∀ as ∈ ass, as.length = k) → ass[i]? = some as → j < k → ass.flatten[i * k + j]? = as[j]?
  | [], i, j, as, _, h, _ => by simp at h
  | x :: ass, i, j, as, hl, h, hj => by
    have hx := hl x List.mem_cons_self
    rw [List.flatten_cons]
    cases i with
    | zero => simp at h; subst h; rw [Nat.zero_mul, Nat.zero_add, List.getElem?_append_left (by omega)]
    | succ i =>
      have e : (i + 1) * k + j = x.length + (i * k + j) := by rw [Nat.add_mul]; omega
      rw [e, List.getElem?_append_right (by omega), Nat.add_sub_cancel_left]
      exact flatten_get k ass i j as (fun b hb => hl b (List.mem_cons_of_mem _ hb)) (by simpa using h) hj
theorem flatten_len {α : Type} (k : Nat) : ∀ (ass : List (List α)), (∀ as ∈ ass, as.length = k) → ass.flatten.length = ass.length * k
  | [], _ => by simp
  | x :: ass, hl => by
    rw [List.flatten_cons, List.length_append, flatten_len k ass fun b hb => hl b (List.mem_cons_of_mem _ hb), hl x List.mem_cons_self, List.length_cons, Nat.add_mul]; omega

/-- A slice's data. -/
def sliceRel (size : Nat) (rel : (Nat → Option AObj) → α → List AVal → Prop) (g : Nat → Option AObj) (xs : List α) (as : List AVal) : Prop :=
  (as = [.nils] ∧ xs = []) ∨ ∃ l md ass, as = [.sl l 0 xs.length none] ∧ g l = some (.cells md size (List.flatten ass)) ∧ ass.length = xs.length ∧ (∀ as ∈ ass, as.length = size) ∧ (∀ (i : Nat) a as, xs[i]? = some a → ass[i]? = some as → rel g a as) ∧ xs.length ≤ reachBytes

def Codec.slice {t : TypeId} (c : Codec P α) (ht : P.underlying t = some (.slice c.t)) (hc : P.cellsOf t = 1) (hy : 0 < P.bytesOf t) : Codec P (List α) where
  t := t
  size := 1
  rel := sliceRel c.size c.rel
  cells := hc
  pos := Nat.one_pos
  byt := hy
  len := fun g a as h => by
    rcases h with ⟨rfl, _⟩ | ⟨_, _, _, rfl, _⟩ <;> rfl
  mono := fun g g' a as hg h => by
    rcases h with h | ⟨l, md, ass, h1, h2, h3, h4, h5, h6⟩
    · exact Or.inl h
    · exact Or.inr ⟨l, md, ass, h1, hg _ _ h2, h3, h4, fun i a as ha hs => c.mono g g' a as hg (h5 i a as ha hs), h6⟩
  lift := fun {H} enc w fuel cs x n h hfit hblk => by
    rcases DataW.trod_slice ht h with ⟨rfl, _⟩ | ⟨a, len, cap, elems, rest, fl, _, rfl, hxe, _, hlc, hcm, hlen, hel, hsp, _⟩
    · exact ⟨[], [.nils], [], rfl, fun u hu => by simp at hu; subst hu; rfl, fun m get _ => ⟨by simp only [VRs, VR]; exact ⟨_, _, rfl, rfl, rfl⟩, Or.inl ⟨rfl, rfl⟩, fun p ocs hp => (by cases hp)⟩⟩
    · subst hxe
      have hfit' : ∀ k ∈ (elems.length + (rest.map (·.1)).length) * P.bytesOf c.t :: (DataW.weightsAll P c.t (elems.map (·.1)) ++ DataW.weightsAll P c.t (rest.map (·.1))), k ≤ reachBytes := fun k hk => hfit k (by
        simp only [DataW.weights, ht, List.length_map]; simpa using hk)
      have hreach : len ≤ reachBytes := by
        have := hfit' _ List.mem_cons_self
        have h2 : elems.length * 1 ≤ (elems.length + (rest.map (·.1)).length) * P.bytesOf c.t := Nat.mul_le_mul (Nat.le_add_right _ _) c.byt
        omega
      -- the cells of each element
      have each : ∀ i, i < len → ∃ cs x, w.cells? 0 (a.add (i * c.size)) c.size = some cs ∧ DataW.trod enc P w 0 (fun _ => true) true fl c.t cs = some x ∧ InReach P c.t x.1 := by
        intro i hi
        have := hel i hi
        rw [c.cells] at this
        obtain ⟨y, hy⟩ : ∃ y, elems[i]? = some y := ⟨_, List.getElem?_eq_getElem (by omega)⟩
        rw [hy, Option.bind_eq_some_iff] at this
        obtain ⟨cs, h1, h2⟩ := this
        exact ⟨cs, y, h1, h2, fun k hk => hfit' k (List.mem_cons_of_mem _ (List.mem_append_left _ (weightsAll_mem (List.mem_map.2 ⟨y, List.mem_of_getElem? hy, rfl⟩) hk)))⟩
      let css : List (List Value) := (List.range len).map fun i => (w.cells? 0 (a.add (i * c.size)) c.size).getD []
      have hcss : ∀ i, i < len → ∃ cs x, css[i]? = some cs ∧ w.cells? 0 (a.add (i * c.size)) c.size = some cs ∧ (DataW.trod enc P w 0 (fun _ => true) true fl c.t cs = some x ∧ InReach P c.t x.1) := by
        intro i hi
        obtain ⟨cs, x, h1, h2⟩ := each i hi
        exact ⟨cs, x, by simp [css, hi, h1], h1, h2⟩
      have hcl : css.length = len := by simp [css]
      have hmem : ∀ cs ∈ css, (∃ x, DataW.trod enc P w 0 (fun _ => true) true fl c.t cs = some x ∧ InReach P c.t x.1) ∧ Blk w cs ∧ cs.length = c.size := by
        intro cs hcs
        obtain ⟨i, hi, rfl⟩ := List.getElem_of_mem hcs
        obtain ⟨cs, x, h1, h2, h3⟩ := hcss i (by omega)
        have : css[i] = cs := by have := List.getElem?_eq_getElem hi; rw [h1] at this; exact (Option.some.inj this).symm
        rw [this]
        obtain ⟨k1, k2⟩ := cells?_spec h2
        refine ⟨⟨x, h3⟩, fun a' len' cap' hin => ?_, k1⟩
        obtain ⟨j, hj, e⟩ := List.getElem_of_mem hin
        have := k2 j (by omega)
        rw [List.getElem?_eq_getElem hj] at this
        obtain ⟨cc, ee, fr, q1, _⟩ := cell?_cells this
        exact ⟨_, cc, ee, fr, q1⟩
      obtain ⟨xs, ass, os, l1, l2, l3, o1, r1⟩ := lift_all c enc w fl css (n + 1) hmem
      obtain ⟨b, cc, ee, fr, hb⟩ := hblk a len cap (by simp)
      -- where the object lies
      have hfl := flatten_len c.size ass l3
      have hall : ∀ m, VRs m ass.flatten css.flatten → ∀ j (y : AVal), ass.flatten[j]? = some y → ∃ v, w.cell? (a.add j) = some v ∧ VR m y v ∧ v.oneCell' = true := by
        intro m hv j y hy
        have hj : j < ass.flatten.length := (List.getElem?_eq_some_iff.1 hy).1
        rw [hfl, l2, hcl] at hj
        have hk : 0 < c.size := by
          rcases Nat.eq_zero_or_pos c.size with e | e
          · rw [e] at hj; simp at hj
          · exact e
        have hi : j / c.size < len := (Nat.div_lt_iff_lt_mul hk).2 hj
        obtain ⟨cs, x, h1, h2, h3⟩ := hcss (j / c.size) hi
        obtain ⟨k1, k2⟩ := cells?_spec h2
        have hm := Nat.mod_lt j hk
        have ej : j / c.size * c.size + j % c.size = j := Nat.div_add_mod' j c.size
        obtain ⟨v, hv1, hv2⟩ := hv.get j y hy
        have hfg := flatten_get c.size css (j / c.size) (j % c.size) cs (fun b hb => (hmem b hb).2.2) h1 hm
        rw [ej, hv1] at hfg
        have hc2 := k2 _ hm
        rw [← hfg] at hc2
        refine ⟨v, ?_, hv2, o1 v (List.mem_of_getElem? hv1)⟩
        rw [← hc2]
        congr 1
        by_cases h0 : j = 0
        · subst h0; simp [Addr.add]
        · unfold Addr.add
          rw [if_neg h0]
          by_cases h1 : j % c.size = 0
          · rw [if_pos h1]
            have : j / c.size * c.size ≠ 0 := by omega
            rw [if_neg this]; congr 1; omega
          · rw [if_neg h1]
            by_cases h2 : j / c.size * c.size = 0
            · rw [if_pos h2]; congr 1; omega
            · rw [if_neg h2]; simp only [Addr.mk.injEq, and_true, true_and]; omega
      have hcapc : ∀ j, j < cap * c.size → ∃ v, w.cell? (a.add j) = some v := by
        intro j hj
        have hk : 0 < c.size := by
          rcases Nat.eq_zero_or_pos c.size with e | e
          · rw [e] at hj; simp at hj
          · exact e
        have hi : j / c.size < cap := (Nat.div_lt_iff_lt_mul hk).2 hj
        have : ∃ cs, w.cells? 0 (a.add (j / c.size * c.size)) c.size = some cs := by
          by_cases h1 : j / c.size < len
          · obtain ⟨cs, x, _, h2, _⟩ := hcss _ h1; exact ⟨cs, h2⟩
          · obtain ⟨hr1, hr2⟩ := hsp rfl
            have := hr2 (j / c.size - len) (by omega)
            rw [c.cells, show len + (j / c.size - len) = j / c.size by omega] at this
            obtain ⟨y, hy⟩ : ∃ y, rest[j / c.size - len]? = some y := ⟨_, List.getElem?_eq_getElem (by omega)⟩
            rw [hy, Option.bind_eq_some_iff] at this
            obtain ⟨cs, h1, _⟩ := this
            exact ⟨cs, h1⟩
        obtain ⟨cs, hcs⟩ := this
        obtain ⟨k1, k2⟩ := cells?_spec hcs
        have hm := Nat.mod_lt j hk
        have ej : j / c.size * c.size + j % c.size = j := Nat.div_add_mod' j c.size
        refine ⟨cs[j % c.size]'(by omega), ?_⟩
        have hc2 := k2 _ hm
        rw [List.getElem?_eq_getElem (by omega)] at hc2
        rw [← hc2]
        congr 1
        by_cases h0 : j = 0
        · subst h0; simp [Addr.add]
        · unfold Addr.add
          rw [if_neg h0]
          by_cases h1 : j % c.size = 0
          · rw [if_pos h1]
            have : j / c.size * c.size ≠ 0 := by omega
            rw [if_neg this]; congr 1; omega
          · rw [if_neg h1]
            by_cases h2 : j / c.size * c.size = 0
            · rw [if_pos h2]; congr 1; omega
            · rw [if_neg h2]; simp only [Addr.mk.injEq, and_true, true_and]; omega
      -- its place
      obtain ⟨p, hpc, hps, hpa, hpo⟩ : ∃ p : Pl, p.cap = cap ∧ p.sz = c.size ∧ (cap ≠ 0 → a = ⟨p.blk, p.start, none⟩ ∨ c.size = 0) ∧ ∀ m, VRs m ass.flatten css.flatten → ObjR m p (.cells .ro c.size ass.flatten) w := by
        by_cases h0 : cap * c.size = 0
        · refine ⟨⟨b, 0, cap, c.size⟩, rfl, rfl, fun hne => ?_, fun m hv => ⟨cc, ee, fr, hb, fun h => (by cases h), rfl, trivial, ?_, by show 0 + cap * c.size ≤ _; omega, fun j y hy => ?_⟩⟩
          · rcases Nat.mul_eq_zero.1 h0 with e | e
            · exact absurd e hne
            · exact .inr e
          · rw [hfl, l2, hcl]; exact Nat.mul_le_mul_right _ hlc
          · have hj : j < ass.flatten.length := (List.getElem?_eq_some_iff.1 hy).1
            rw [hfl, l2, hcl] at hj
            have := Nat.mul_le_mul_right c.size hlc
            omega
        · obtain ⟨v, hv⟩ := hcapc (cap * c.size - 1) (by omega)
          obtain ⟨v0, hv0⟩ := hcapc 0 (by omega)
          have ha0 : a.add 0 = a := by simp [Addr.add]
          rw [ha0] at hv0
          obtain ⟨c1, e1, fr1, q1, q2, q3⟩ := cell?_cells hv0
          have hadd : ∀ j, (a.add j).block = a.block ∧ (a.add j).off = a.off + j ∧ (a.add j).spot = none := by
            intro j; unfold Addr.add; split
            · rename_i e; subst e; exact ⟨rfl, rfl, q2⟩
            · exact ⟨rfl, rfl, rfl⟩
          have hread : ∀ j v, w.cell? (a.add j) = some v → c1[a.off + j]? = some v := by
            intro j v hv
            obtain ⟨c2, e2, fr2, z1, z2, z3⟩ := cell?_cells hv
            rw [(hadd j).1, q1] at z1; cases z1
            rw [(hadd j).2.1] at z3; exact z3
          have hlast := (Array.getElem?_eq_some_iff.1 (hread _ _ hv)).1
          refine ⟨⟨a.block, a.off, cap, c.size⟩, rfl, rfl, fun _ => .inl ?_, fun m hm => ⟨c1, e1, fr1, q1, fun h => (by cases h), rfl, trivial, ?_, by show a.off + cap * c.size ≤ _; omega, fun j y hy => ?_⟩⟩
          · obtain ⟨bl, of, sp⟩ := a
            simp only at q2; subst q2; rfl
          · rw [hfl, l2, hcl]; exact Nat.mul_le_mul_right _ hlc
          · obtain ⟨v, h1, h2, h3⟩ := hall m hm j y hy
            exact ⟨v, hread _ _ h1, h2, h3⟩
      have hxl : xs.length = len := by omega
      · refine ⟨xs, [.sl n 0 len none], (p, ass.flatten) :: os, rfl, fun u hu => by simp at hu; subst hu; rfl, fun m get hL => ?_⟩
        have hL1 := hL 0 p ass.flatten rfl
        have hL2 : Laid m get (n + 1) os := fun i q cs hi => by
          have := hL (i + 1) q cs (by simpa using hi)
          rw [show n + 1 + i = n + (i + 1) by omega]; exact this
        obtain ⟨v1, q1, b1⟩ := r1 m get hL2
        refine ⟨?_, Or.inr ⟨n, .ro, ass, by rw [hxl], by have := hL1.2; rw [hps] at this; exact this, by omega, l3, q1, by omega⟩, fun p' ocs hp' => ?_⟩
        · simp only [VRs, VR]
          refine ⟨_, [], rfl, ⟨p, cap, a, hL1.1, fun _ => by omega, fun k hk => (by cases hk), hlc, fun hne => ?_, rfl⟩, rfl⟩
          rcases hpa hne with e | e
          · rw [Nat.zero_mul, Nat.add_zero]; exact e
          · exact absurd c.pos (by omega)
        · rcases List.mem_cons.1 hp' with e | hp'
          · cases e
            have := hpo m v1
            rw [hps]; exact this
          · exact b1 p' ocs hp'
end Go.Proofs.YtgneblbblihaoaaDoor.A
