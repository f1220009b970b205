/- Parts of the proof, one behind another. -/
import Derived.Test.YtgneblbblihaoaaGreatDoorX8
set_option linter.all false
/- A base of clauses, as0 lists. -/
namespace Go.Proofs.YtgneblbblihaoaaGreatDoor.A
open Go
/-- Clauses by their numbers; none: it was dropped. -/
abbrev Cls := List (Option (List Int))
def lv (cls : Cls) : List (List Int) := cls.filterMap id
def clAt (cls : Cls) (id : Nat) : Option (List Int) := (cls[id]?).join
def hits (cls : Cls) (p : List Int → Bool) (id : Nat) : Bool := match clAt cls id with
  | some c => p c
  | none => false
def idsBy (cls : Cls) (p : List Int → Bool) : List Int := ((List.range cls.length).filter (hits cls p)).map fun (n : Nat) => (n : Int)
def hasP (x : Int) : List Int → Bool := fun c => decide (x ∈ c)
def smallP : List Int → Bool := fun c => decide (c.length < 2)
theorem clAt_some {cls : Cls} {id : Nat} {c : List Int} : clAt cls id = some c ↔ cls[id]? = some (some c) := by
  unfold clAt
  cases h : cls[id]? with
  | none => simp
  | some o => simp
theorem clAt_lt {cls : Cls} {id : Nat} {c : List Int} (h : clAt cls id = some c) : id < cls.length := (List.getElem?_eq_some_iff.1 (clAt_some.1 h)).1
theorem hits_iff {cls : Cls} {p : List Int → Bool} {id : Nat} : hits cls p id = true ↔ ∃ c, clAt cls id = some c ∧ p c = true := by
  unfold hits
  cases h : clAt cls id <;> simp
theorem idsBy_mem {cls : Cls} {p : List Int → Bool} {z : Int} : z ∈ idsBy cls p ↔ ∃ (id : Nat) (c : List Int), z = (id : Int) ∧ clAt cls id = some c ∧ p c = true := by
  unfold idsBy
  simp only [List.mem_map, List.mem_filter, List.mem_range, hits_iff]
  constructor
  · rintro ⟨a, ⟨h1, c, h2, h3⟩, rfl⟩; exact ⟨a, c, rfl, h2, h3⟩
  · rintro ⟨a, c, rfl, h1, h2⟩; exact ⟨a, ⟨clAt_lt h1, c, h1, h2⟩, rfl⟩
theorem lv_mem {cls : Cls} {c : List Int} : c ∈ lv cls ↔ ∃ id, clAt cls id = some c := by
  unfold lv
  simp only [List.mem_filterMap, id]
  constructor
  · rintro ⟨a, h, rfl⟩
    obtain ⟨i, hi, e⟩ := List.getElem_of_mem h
    exact ⟨i, clAt_some.2 (by rw [List.getElem?_eq_getElem hi, e])⟩
  · rintro ⟨i, h⟩; exact ⟨some c, List.mem_of_getElem? (clAt_some.1 h), rfl⟩
theorem lv_snoc (cls : Cls) (c : List Int) : lv (cls ++ [some c]) = lv cls ++ [c] := by simp [lv]
theorem clAt_snoc (cls : Cls) (c : List Int) (id : Nat) : clAt (cls ++ [some c]) id = if id = cls.length then some c else clAt cls id := by
  unfold clAt
  by_cases h : id < cls.length
  · rw [List.getElem?_append_left h, if_neg (by omega)]
  · by_cases h2 : id = cls.length
    · subst h2; simp
    · rw [if_neg h2, List.getElem?_eq_none (by simp; omega), List.getElem?_eq_none (by omega)]
theorem clAt_del (cls : Cls) (k id : Nat) : clAt (cls.set k none) id = if id = k then none else clAt cls id := by
  unfold clAt
  rw [List.getElem?_set]
  by_cases h : k = id
  · subst h; rw [if_pos rfl, if_pos rfl]; split <;> rfl
  · rw [if_neg h, if_neg (fun e => h e.symm)]
theorem idsBy_snoc (cls : Cls) (c : List Int) (p : List Int → Bool) : idsBy (cls ++ [some c]) p = idsBy cls p ++ if p c = true then [(cls.length : Int)] else [] := by
  unfold idsBy
  rw [List.length_append, List.length_singleton, List.range_succ, List.filter_append, List.map_append]
  congr 1
  · congr 1
    refine List.filter_congr fun i hi => ?_
    have := List.mem_range.1 hi
    simp only [hits, clAt_snoc, if_neg (show i ≠ cls.length by omega)]
  · have : hits (cls ++ [some c]) p cls.length = p c := by simp only [hits, clAt_snoc, if_true]
    cases hp : p c <;> simp [List.filter, this, hp]
theorem idsBy_del (cls : Cls) (k : Nat) (p : List Int → Bool) : idsBy (cls.set k none) p = (idsBy cls p).filter fun z => !(z == (k : Int)) := by
  unfold idsBy
  rw [List.length_set, List.filter_map, List.filter_filter]
  congr 1
  refine List.filter_congr fun i hi => ?_
  simp only [hits, clAt_del, Function.comp]
  by_cases h : i = k
  · subst h; simp
  · rw [if_neg h]
    have : ((i : Int) == (k : Int)) = false := by simp; omega
    simp [this]
theorem idsBy_len (cls : Cls) (p : List Int → Bool) : (idsBy cls p).length ≤ cls.length := by
  unfold idsBy
  rw [List.length_map]
  have := List.length_filter_le (hits cls p) (List.range cls.length)
  simpa using this
/-- Where a clause stands first. -/
def findC (cls : Cls) (n : List Int) : Option Nat := (List.range cls.length).find? fun id => decide (clAt cls id = some n)
theorem findC_some {cls : Cls} {n : List Int} {k : Nat} (h : findC cls n = some k) : clAt cls k = some n ∧ ∀ j, j < k → clAt cls j ≠ some n := by
  unfold findC at h
  rw [List.find?_range_eq_some] at h
  obtain ⟨h1, h2, h3⟩ := h
  exact ⟨by simpa using h1, fun j hj e => by simpa [e] using h3 j hj⟩
theorem findC_none {cls : Cls} {n : List Int} (h : findC cls n = none) : n ∉ lv cls := by
  unfold findC at h
  rw [List.find?_eq_none] at h
  intro hn
  obtain ⟨id, e⟩ := lv_mem.1 hn
  exact h id (List.mem_range.2 (clAt_lt e)) (by simp [e])
theorem findC_ids {cls : Cls} {n : List Int} {p : List Int → Bool} (hp : p n = true) : findC cls n = ((List.range cls.length).filter (hits cls p)).find? fun id => decide (clAt cls id = some n) := by
  unfold findC
  rw [List.find?_filter]
  congr 1
  funext id
  by_cases h : clAt cls id = some n
  · simp [h, hits, hp]
  · simp [h]
theorem lv_del' : ∀ {cls : Cls} {n : List Int} {k : Nat}, clAt cls k = some n → (∀ j, j < k → clAt cls j ≠ some n) → lv (cls.set k none) = (lv cls).erase n
  | [], n, k, h, _ => by simp [clAt] at h
  | o :: t, n, 0, h, _ => by
    have : o = some n := by simpa [clAt] using h
    subst this
    have e : lv (some n :: t) = n :: lv t := rfl
    rw [e, List.erase_cons_head]; rfl
  | o :: t, n, k + 1, h, hj => by
    have ih := lv_del' (cls := t) (n := n) (k := k) (by simpa [clAt] using h) fun j hlt => by simpa [clAt] using hj (j + 1) (by omega)
    cases o with
    | none => exact ih
    | some c =>
      have hcn : c ≠ n := fun e => hj 0 (by omega) (by subst e; rfl)
      have e : ∀ u : Cls, lv (some c :: u) = c :: lv u := fun u => rfl
      rw [List.set_cons_succ, e, e, List.erase_cons_tail (by simpa using hcn), ih]
theorem lv_del {cls : Cls} {n : List Int} {k : Nat} (h : findC cls n = some k) : lv (cls.set k none) = (lv cls).erase n := lv_del' (findC_some h).1 (findC_some h).2

/-! ### What follows at once -/
def rightC (vars : Int) (c : List Int) : Prop := ∀ l ∈ c, l ≠ 0 ∧ -vars ≤ l ∧ l ≤ vars
abbrev negs (c : List Int) : List Int := c.map fun l => -l
open Classical in
noncomputable def impl (vars : Int) (D : List (List Int)) (c : List Int) : Bool := decide (rightC vars c ∧ Conf D (negs c))
open Classical in
noncomputable def blocked (vars : Int) (D : List (List Int)) (c : List Int) : Bool := impl vars D c || match c with
  | [] => false
  | p :: _ => decide (rightC vars c ∧ ∀ d ∈ D, -p ∈ d → impl vars D (c ++ d.filter fun x => !(x == -p)) = true)
theorem impl_iff {vars : Int} {D : List (List Int)} {c : List Int} : impl vars D c = true ↔ rightC vars c ∧ Conf D (negs c) := by
  unfold impl; simp
theorem blocked_nil {vars : Int} {D : List (List Int)} : blocked vars D [] = impl vars D [] := by
  unfold blocked; simp
theorem blocked_iff {vars : Int} {D : List (List Int)} {p : Int} {t : List Int} : blocked vars D (p :: t) = true ↔ impl vars D (p :: t) = true ∨ (rightC vars (p :: t) ∧ ∀ d ∈ D, -p ∈ d → impl vars D ((p :: t) ++ d.filter fun x => !(x == -p)) = true) := by
  unfold blocked; simp
theorem conf_ext {C D : List (List Int)} {s t : List Int} (hC : ∀ c ∈ C, ∃ d ∈ D, ∀ v, v ∈ d ↔ v ∈ c) (hD : ∀ d ∈ D, ∃ c ∈ C, ∀ v, v ∈ c ↔ v ∈ d) (hs : ∀ l, l ∈ s ↔ l ∈ t) : Conf C s ↔ Conf D t :=
  ⟨fun h => h.mono hC fun l hl => (hs l).1 hl, fun h => h.mono hD fun l hl => (hs l).2 hl⟩
theorem conf_normL {C : List (List Int)} {s t : List Int} (hs : ∀ l, l ∈ s ↔ l ∈ t) : Conf (C.map normL) s ↔ Conf C t :=
  conf_ext (fun c hc => by
    obtain ⟨d, hd, rfl⟩ := List.mem_map.1 hc
    exact ⟨d, hd, fun v => normL_mem.symm⟩) (fun d hd => ⟨normL d, List.mem_map_of_mem hd, fun v => normL_mem⟩) hs
theorem impl_ext {vars : Int} {D : List (List Int)} {c d : List Int} (h : ∀ l, l ∈ c ↔ l ∈ d) : impl vars D c = impl vars D d := by
  unfold impl rightC
  congr 1
  have : Conf D (negs c) ↔ Conf D (negs d) := conf_ext (fun c hc => ⟨c, hc, fun _ => Iff.rfl⟩) (fun c hc => ⟨c, hc, fun _ => Iff.rfl⟩) fun l => by
    simp only [List.mem_map]; exact ⟨fun ⟨a, h1, h2⟩ => ⟨a, (h a).1 h1, h2⟩, fun ⟨a, h1, h2⟩ => ⟨a, (h a).2 h1, h2⟩⟩
  rw [this]
  have : (∀ l ∈ c, l ≠ 0 ∧ -vars ≤ l ∧ l ≤ vars) ↔ ∀ l ∈ d, l ≠ 0 ∧ -vars ≤ l ∧ l ≤ vars := ⟨fun k l hl => k l ((h l).2 hl), fun k l hl => k l ((h l).1 hl)⟩
  rw [this]

/-! ### Proofs -/
noncomputable def mayC (bl : Bool) (vars : Int) (D : List (List Int)) (c : List Int) : Bool := bif bl then blocked vars D c else impl vars D c
/-- The steps, one by one: the place of one that is amiss, or what there is then. -/
noncomputable def runD (bl : Bool) (vars : Int) : Nat → List (List Int) → List (Bool × List Int) → Nat ⊕ List (List Int)
  | _, D, [] => .inr D
  | k, D, (del, c) :: t => bif del then (if normL c ∈ D then runD bl vars (k + 1) (D.erase (normL c)) t else .inl k) else
    bif mayC bl vars D c then runD bl vars (k + 1) (D ++ [normL c]) t else .inl k
def litsOf (l : List (Bool × List Int)) : List (List Int) := l.map (·.2)
def chkP (l : List (Bool × List Int)) : Flt := if (litsOf l).flatten.length > 320000 then some (.limit, none) else ((litsOf l).findIdx? (badC 4000)).map fun k => (.range, some (k : Int))
def maxV (n : Int) (c : List Int) : Int := c.foldl (fun n x => if (x.natAbs : Int) > n then x.natAbs else n) n
def greatest (n : Int) (l : List (Bool × List Int)) : Int := l.foldl (fun n s => maxV n s.2) n
/-- What is amiss ahead of the steps. -/
def preF (vars : Int) (cs : List (List Int)) (l : List (Bool × List Int)) : Flt := match chkC vars cs with
  | some f => some f
  | none => chkP l
noncomputable def refuteF (vars : Int) (cs : List (List Int)) (l : List (Bool × List Int)) : Flt := match preF vars cs l with
  | some f => some f
  | none => match runD true (greatest vars l) 0 (cs.map normL) l with
    | .inl k => some (.proof, some (k : Int))
    | .inr D => bif impl (greatest vars l) D [] then none else some (.proof, none)
open Classical in
noncomputable def deriveF (vars : Int) (cs : List (List Int)) (l : List (Bool × List Int)) (goal : List Int) : Flt := match preF vars cs l with
  | some f => some f
  | none => match runD false (greatest vars l) 0 (cs.map normL) l with
    | .inl k => some (.proof, some (k : Int))
    | .inr D => if rightC (greatest vars l) goal then (bif impl (greatest vars l) D goal then none else some (.proof, none)) else some (.range, none)
end Go.Proofs.YtgneblbblihaoaaGreatDoor.A

/- A base of clauses in the heap: right, Add, New. -/
namespace Go.Proofs.YtgneblbblihaoaaGreatDoor.A
open Go
def tgL (x : Int) : Nat := 20 + 2 * x.natAbs + if x < 0 then 1 else 0
theorem tgL_inj {x y : Int} : tgL x = tgL y ↔ x = y := by
  unfold tgL
  constructor
  · intro h; split at h <;> split at h <;> omega
  · intro h; rw [h]
theorem tgL_ge (x : Int) : 20 ≤ tgL x := by unfold tgL; omega
/-- The parts of a base; 14 to 19 are for others. -/
abbrev own0 : Nat → Bool := fun j => decide (1 ≤ j ∧ (j ≤ 13 ∨ 20 ≤ j))
/-- The lists by literals. -/
def AllBy (σ : Heap) (T : Tg) (f : Int → List Int) (ps : List (Int × AVal)) : Prop := ∀ y, Own .int (σ.at T (tgL y)) (f y) ((look ps y).getD .nils)
/-- The clauses. -/
def AllCl (σ : Heap) (T : Tg) (cls : Cls) (cv : List AVal) : Prop := ∀ id c, clAt cls id = some c → ∃ x, cv[id]? = some x ∧ SlV .int (σ.at T 0) c x
section
variable {σ τ : Heap} {T T' : Tg} {I : Nat → Bool} {f : Int → List Int} {ps : List (Int × AVal)} {cls : Cls} {cv : List AVal}
theorem AllBy.hop (h : AllBy σ T f ps) (H : Hop I σ T τ T') (hI : ∀ t, 20 ≤ t → I t = false := by intro t ht; simp; omega) : AllBy τ T' f ps := fun y => (h y).hop H (hI _ (tgL_ge y))
theorem AllBy.hle (h : AllBy σ T f ps) (L : Hle σ τ) : AllBy τ T f ps := fun y => (h y).hle L
theorem AllCl.hop (h : AllCl σ T cls cv) (H : Hop I σ T τ T') (hI : I 0 = false := by rfl) : AllCl τ T' cls cv := fun id c hc => (h id c hc).imp fun x hx => ⟨hx.1, hx.2.hop H hI⟩
theorem AllCl.hle (h : AllCl σ T cls cv) (L : Hle σ τ) : AllCl τ T cls cv := fun id c hc => (h id c hc).imp fun x hx => ⟨hx.1, hx.2.hle L⟩
end
structure BaseS (σ : Heap) (T : Tg) (l vars : Nat) (cls : Cls) : Prop where
  ex : ∃ (vc vt : AVal) (lm : Nat) (vs : AVal) (many : Int) (ps : List (Int × AVal)) (cv : List AVal), Loc (σ.at T 1) l [.int .i64 vars, vc, vt, .map lm, vs, .int .i64 many] ∧ Own vRaw (σ.at T 2) cv vc ∧ cv.length = cls.length ∧
    AllCl σ T cls cv ∧ Own .bool (σ.at T 3) (cls.map Option.isSome) vt ∧ MapV (σ.at T 4) lm ps ∧
    AllBy σ T (fun x => idsBy cls (hasP x)) ps ∧ Own .int (σ.at T 5) (idsBy cls smallP) vs
  ok : ∀ c ∈ lv cls, rightC vars c
  nm : ∀ c ∈ lv cls, normL c = c
  vl : vars ≤ 4000
  cl : cls.length ≤ 1000000
  ll : ∀ c ∈ lv cls, c.length ≤ 1000000
theorem BaseS.mono {σ τ : Heap} {T T' : Tg} {l vars : Nat} {cls : Cls} (h : BaseS σ T l vars cls) (L : ∀ i, Hle (σ.at T i) (τ.at T' i)) : BaseS τ T' l vars cls := by
  obtain ⟨⟨vc, vt, lm, vs, many, ps, cv, h1, h2, h3, h4, h5, h6, h7, h8⟩, a, b, c, d, e⟩ := h
  exact ⟨⟨vc, vt, lm, vs, many, ps, cv, h1.mono (L _), h2.mono (L _), h3, fun id c hc => (h4 id c hc).elim fun x hx => ⟨x, hx.1, hx.2.mono (L _)⟩, h5.mono (L _), h6.mono (L _), fun x => (h7 x).mono (L _), h8.mono (L _)⟩, a, b, c, d, e⟩
theorem BaseS.hle {σ τ : Heap} {T : Tg} {l vars : Nat} {cls : Cls} (h : BaseS σ T l vars cls) (L : Hle σ τ) : BaseS τ T l vars cls := h.mono fun i => L.ats T i

theorem nodup_take {c : List Int} {i : Nat} {a : Int} (hd : c.Nodup) (ha : c[i]? = some a) : a ∉ c.take i := fun h => by
  obtain ⟨j, hj, e⟩ := List.getElem_of_mem h
  simp at hj e
  obtain ⟨h1, h2⟩ := List.getElem?_eq_some_iff.1 ha
  exact (List.pairwise_iff_getElem.1 hd) j i (by omega) h1 (by omega) (by rw [e, h2])

/-! ### Are all literals right? -/
theorem right_w {σ : Heap} {l vars : Nat} {us : List AVal} {c : List Int} {x : AVal} (h : Loc σ l (.int .i64 vars :: us)) (hv : vars ≤ 4000) (hx : SlV .int σ c x) (hl : c.length ≤ 1000000000) :
    W (S.rup_Base_right (.ptr l 0) x σ) fun r => (r.1 = true ↔ rightC vars c) ∧ Hle σ r.2 := by
  unfold S.rup_Base_right
  repeat' (with_reducible refine W.scP ?_)
  refine W.new fun k τ hk L hk hnτ => ?_
  replace h := h.mono L
  replace hx := hx.mono L
  have hnx := L.next
  refine W.call (containsFunc_w (fun n => !isL n vars) hx (by omega) fun n hn Rt K => ?_) fun r hr => ?_
  · have hcell := hk.at.cell (k := 0) rfl
    have hcell2 := h.at.cell (k := 0) rfl
    show ((S.rup_Base_right_1 n (.ptr k 0) τ).bind fun x => K (retV [.B] x) τ) = _
    unfold S.rup_Base_right_1
    simp only [fld, ld, nilck, hcell, hcell2, asK, if_true, litsIs_eq (σ := τ) (l := n) (vars := (vars : Int)) (by omega) (by omega), Option.bind_some]
    rfl
  subst hr
  repeat' (with_reducible refine W.ret ?_)
  refine ⟨?_, L⟩
  simp only [Bool.not_eq_true', List.any_eq_false, Bool.not_eq_true, Bool.not_eq_false', isL_iff]
  unfold rightC
  simp only [Bool.not_eq_false, isL_iff]

theorem rightC_inB {vars : Nat} {c : List Int} (hv : vars ≤ 4000) (h : rightC vars c) : c.all inB = true := by
  rw [List.all_eq_true]
  intro l hl
  have := h l hl
  simp [inB]; omega

/-! ### Add -/
theorem addBy_w {σ : Heap} {T : Tg} {l id : Nat} {a0 a1 a2 : AVal} {lm : Nat} {us : List AVal} {c : List Int} {x : AVal} {ps : List (Int × AVal)} {f : Int → List Int} (hn : Tn σ T) (hl : Loc (σ.at T 1) l (a0 :: a1 :: a2 :: .map lm :: us)) (hc : SlV .int (σ.at T 0) c x) (hd : c.Nodup)
    (hm : MapV (σ.at T 4) lm ps) (hb : AllBy σ T f ps) (hfl : ∀ y, (f y).length ≤ 1000000) (hcl : c.length ≤ 1000000) :
    W (loopW (S.rup_Base_Add.b0 (.ptr l 0) x (id : Int) (c.length : Int)) 0 σ) fun r => r.1 = () ∧ ∃ T' qs, Hop (fun j => j == 4 || Nat.ble 20 j) σ T r.2 T' ∧ MapV (r.2.at T' 4) lm qs ∧ AllBy r.2 T' (fun y => f y ++ if y ∈ c then [(id : Int)] else []) qs := by
  refine W.loop c.length (fun i (y : Int) τ => y = (i : Int) ∧ ∃ T' qs, Hop (fun j => j == 4 || Nat.ble 20 j) σ T τ T' ∧ MapV (τ.at T' 4) lm qs ∧ ∀ y, Own .int (τ.at T' (tgL y)) (f y ++ if y ∈ c.take i then [(id : Int)] else []) ((look qs y).getD .nils))
    ⟨rfl, T, ps, Hop.refl hn, hm, fun y => by simpa using hb y⟩ fun i y τ hi hI => ?_
  obtain ⟨rfl, T1, qs, H, hm, hb⟩ := hI
  replace hl := hl.mono (H.le rfl)
  have hc' := hc.mono (H.le rfl)
  replace hn := H.tn
  unfold S.rup_Base_Add.b0
  (with_reducible refine W.cnd (fun hc => ?_) (fun hc => ?_) <;> (try simp only [q1, q2, q3, q4, q5, q6, q7, q8, q9, q10, q11, q12, q13, q14, q15, q16, q17, q18, q19, q20, q21, q22, q23, q24, q25, q26, q27, q28, q29, q30, Kd.ty] at hc) <;> (try (exfalso; omega)))
  · obtain ⟨a, ha⟩ : ∃ a, c[i]? = some a := ⟨_, List.getElem?_eq_getElem (by omega)⟩
    repeat' (with_reducible (first | refine W.asV ?_ | refine W.chk rfl ?_ | refine W.fldp ?_ | refine W.nck ?_ | refine W.ldL (Loc.up (by assumption)) (by with_unfolding_all rfl) ?_ | refine W.ixIc (SlV.up (by assumption)) (by assumption) ?_ | refine W.mgetT (by assumption) ?_))
    have hba := hb a
    have hni := nodup_take hd ha
    rw [if_neg hni, List.append_nil] at hba
    have hfa := hfl a
    refine W.own_push Vw.int_flat hba hn (a := (id : Int)) rfl (by omega) (by omega) fun x' τ2 T2 hO H2 => ?_
    replace hl := hl.mono (H2.le (by have := tgL_ge a; simp; omega))
    replace hm := hm.mono (H2.le (by have := tgL_ge a; simp; omega))
    replace hn := H2.tn
    repeat' (with_reducible (first | refine W.asV ?_ | refine W.chk rfl ?_ | refine W.ldL (Loc.up (by assumption)) (by with_unfolding_all rfl) ?_))
    refine W.mputT hm hn fun τ3 qs3 hm hq H3 hn3 => ?_
    repeat' (with_reducible refine W.next ?_)
    refine ⟨by omega, sk, T2, qs3, (H.trans (H2.sub fun j hj => by have := tgL_ge a; simp at hj ⊢; right; omega)).trans (H3.sub fun j hj => by simp at hj; simp [hj]), hm, fun z => ?_⟩
    have ht : c.take (i + 1) = c.take i ++ [a] := by rw [List.take_add_one, ha]; rfl
    rw [hq, ht]
    have hz4 : only 4 (tgL z) = false := by have := tgL_ge z; simp; omega
    by_cases hz : z = a
    · subst hz
      rw [if_pos rfl, if_pos (by simp)]
      exact hO.mono (H3.le hz4)
    · rw [if_neg hz]
      have e : (if z ∈ c.take i ++ [a] then [(id : Int)] else []) = if z ∈ c.take i then [(id : Int)] else [] := by simp [hz]
      rw [e]
      exact ((hb z).mono (H2.le (by simp [tgL_inj, hz]))).mono (H3.le hz4)
  · repeat' (with_reducible refine W.stop ?_)
    rw [List.take_of_length_le (by omega)] at hb
    exact ⟨rfl, T1, qs, H, hm, hb⟩

theorem Fresh.at0 {n0 : Nat} {τ : Heap} {xs : List Int} {y : AVal} {T : Tg} (h : Fresh n0 τ xs y) (hT : ∀ k, n0 ≤ k → T k = 0) : SlV .int (τ.at T 0) xs y := by
  obtain ⟨h, hf⟩ := h
  rcases h with h | ⟨l, off, c, md, cs, rfl, h2, h3, h4, h5⟩
  · exact .inl h
  · exact .inr ⟨l, off, c, md, cs, rfl, h2, at_of (hT l (hf _ _ _ _ rfl)) h3, h4, h5⟩
theorem normL_nodup (c : List Int) : (normL c).Nodup := (normL_strict c).imp fun h e => by
  subst e; unfold ltL at h; omega
theorem rightC_norm {vars : Int} {c : List Int} : rightC vars (normL c) ↔ rightC vars c :=
  ⟨fun h l hl => h l (normL_mem.2 hl), fun h l hl => h l (normL_mem.1 hl)⟩
theorem addSmall_w {σ : Heap} {T : Tg} {l id : Nat} {a0 a1 a2 a3 v a5 : AVal} {c f : List Int} (hn : Tn σ T) (hl : Loc (σ.at T 1) l [a0, a1, a2, a3, v, a5]) (hvs : Own .int (σ.at T 5) f v) (hf : f.length ≤ 1000000) :
    W ((cond (decide ((c.length : Int) < 2)) (fld (.ptr l 0) 4 fun a47 => ld σ a47 (.V) fun v48 => newK σ 1 [(.int .i64 (id : Int))] fun l49 σ50 => appS σ50 1 8 v48 (.sl l49 0 1 none) fun v51 σ52 => nilck (.ptr l 0) (fld (.ptr l 0) 4 fun a53 => scal v51 (stC σ52 a53 [v51] fun σ54 => some ((), σ54)))) (some ((), σ)))) fun r =>
      ∃ v' T', Hop (fun j => j == 1 || j == 5) σ T r.2 T' ∧ Loc (r.2.at T' 1) l [a0, a1, a2, a3, v', a5] ∧ Own .int (r.2.at T' 5) (f ++ if c.length < 2 then [(id : Int)] else []) v' := by
  have HH : Hop (fun j => j == 1 || j == 5) σ T σ T := Hop.refl hn
  (with_reducible refine W.cnd (fun hc => ?_) (fun hc => ?_) <;> (try simp only [q1, q2, q3, q4, q5, q6, q7, q8, q9, q10, q11, q12, q13, q14, q15, q16, q17, q18, q19, q20, q21, q22, q23, q24, q25, q26, q27, q28, q29, q30, Kd.ty] at hc) <;> (try (exfalso; omega)))
  · repeat' (with_reducible (first | refine W.asV ?_ | refine W.fldp ?_ | refine W.ldL (Loc.up (by assumption)) (by with_unfolding_all rfl) ?_))
    refine W.own_push Vw.int_flat hvs hn (a := (id : Int)) rfl (by omega) (by omega) fun v' τ T' hvs H => ?_
    replace hl := hl.hop H
    replace HH := HH.hop H
    replace hn := H.tn
    repeat' (with_reducible (first | refine W.fldp ?_ | refine W.nck ?_ | refine W.scalS (Own.slT (by assumption)) ?_))
    refine W.stT hl hn (Nat.le_of_ble_eq_true (by rfl)) fun τ2 H2 hl hnτ2 => ?_
    replace hvs := hvs.hop H2
    replace HH := HH.hop H2
    replace hn := H2.tn
    repeat' (with_reducible refine W.ret ?_)
    rw [if_pos (by omega)]
    exact ⟨v', T', HH, hl, hvs⟩
  · repeat' (with_reducible refine W.ret ?_)
    rw [if_neg (by omega), List.append_nil]
    exact ⟨v, T, HH, hl, hvs⟩
/-- Adding a clause. -/
theorem add_w {σ : Heap} {T : Tg} {l vars : Nat} {cls : Cls} {c : List Int} {x : AVal} (h : BaseS σ T l vars cls) (hn : Tn σ T) (hx : SlV .int (σ.at T 0) c x) (hcl : c.length ≤ 1000000) (hsz : cls.length < 1000000) :
    W (S.rup_Base_Add (.ptr l 0) x σ) fun r => (r.1 = true ↔ rightC vars c) ∧ (¬ rightC vars c → Hle σ r.2) ∧ (rightC vars c → ∃ T', Hop own0 σ T r.2 T' ∧ BaseS r.2 T' l vars (cls ++ [some (normL c)])) := by
  obtain ⟨⟨vc, vt, lm, vs, many, ps, cv, hl, hvc, hcv, hcx, hvt, hm, hb, hvs⟩, ok, nm, vl, cl, ll⟩ := h
  have HH : Hop own0 σ T σ T := Hop.refl hn
  unfold S.rup_Base_Add
  refine W.call (right_w hl.up vl hx.up (by omega)) fun r hr => ?_
  obtain ⟨r, τ⟩ := r
  obtain ⟨hr, L⟩ := hr
  dsimp only at hr L
  replace hl := hl.hle L
  replace hvc := hvc.hle L
  replace hvt := hvt.hle L
  replace hm := hm.hle L
  replace hvs := hvs.hle L
  replace hx := hx.hle L
  replace hb := hb.hle L
  replace hcx := hcx.hle L
  replace HH := HH.hle L
  replace hn := hn.mono L
  (with_reducible refine W.cnd (fun hq => ?_) (fun hq => ?_) <;> (try simp only [q1, q2, q3, q4, q5, q6, q7, q8, q9, q10, q11, q12, q13, q14, q15, q16, q17, q18, q19, q20, q21, q22, q23, q24, q25, q26, q27, q28, q29, q30, Kd.ty] at hq) <;> (try (exfalso; omega)))
  · repeat' (with_reducible refine W.ret ?_)
    have hR : ¬ rightC vars c := fun hR => by rw [hr.2 hR] at hq; cases hq
    exact ⟨by simp [hR], fun _ => L, fun h => absurd h hR⟩
  have hR := hr.1 hq
  have hin := rightC_inB vl hR
  refine W.call (norm0_w hx.up hin hcl) fun r hr2 => ?_
  obtain ⟨⟨z, sy⟩, τ2⟩ := r
  obtain ⟨_, L2, hz⟩ := hr2
  dsimp only at L2 hz ⊢
  have hz := hz.at0 fun k hk => hn.z k hk
  replace hl := hl.hle L2
  replace hvc := hvc.hle L2
  replace hvt := hvt.hle L2
  replace hm := hm.hle L2
  replace hvs := hvs.hle L2
  replace hx := hx.hle L2
  replace hb := hb.hle L2
  replace hcx := hcx.hle L2
  replace HH := HH.hle L2
  replace hn := hn.mono L2
  have hl0 := hl
  have hnl := normL_len c
  repeat' (with_reducible (first | refine W.asV ?_ | refine W.fldp ?_ | refine W.scalS (by assumption) ?_ | refine W.nck ?_ | refine W.ldL (Loc.up (by assumption)) (by with_unfolding_all rfl) ?_ | refine W.len (Own.slT (by assumption)) ?_))
  refine W.own_push vRaw_flat hvc hn rfl (by omega) (by omega) fun vc' τ3 T3 hvc H3 => ?_
  replace hl := hl.hop H3
  replace hvt := hvt.hop H3
  replace hm := hm.hop H3
  replace hvs := hvs.hop H3
  replace hx := hx.hop H3
  replace hz := hz.hop H3
  replace hb := hb.hop H3
  replace hcx := hcx.hop H3
  replace HH := HH.hop H3
  replace hn := H3.tn
  repeat' (with_reducible (first | refine W.asV ?_ | refine W.chk rfl ?_ | refine W.fldp ?_ | refine W.nck ?_ | refine W.ldL (Loc.up (by assumption)) (by with_unfolding_all rfl) ?_))
  refine W.own_push Vw.bool_flat hvt hn (a := true) rfl (by simp; omega) (by simp; omega) fun vt' τ4 T4 hvt H4 => ?_
  replace hl := hl.hop H4
  replace hvc := hvc.hop H4
  replace hm := hm.hop H4
  replace hvs := hvs.hop H4
  replace hx := hx.hop H4
  replace hz := hz.hop H4
  replace hb := hb.hop H4
  replace hcx := hcx.hop H4
  replace HH := HH.hop H4
  replace hn := H4.tn
  repeat' (with_reducible (first | refine W.fldp ?_ | refine W.nck ?_ | refine W.scalS (Own.slT (by assumption)) ?_))
  refine W.stT hl hn (Nat.le_of_ble_eq_true (by rfl)) fun τ5 H5 hl hnτ5 => ?_
  replace hvc := hvc.hop H5
  replace hvt := hvt.hop H5
  replace hm := hm.hop H5
  replace hvs := hvs.hop H5
  replace hx := hx.hop H5
  replace hz := hz.hop H5
  replace hb := hb.hop H5
  replace hcx := hcx.hop H5
  replace HH := HH.hop H5
  replace hn := H5.tn
  repeat' (with_reducible (first | refine W.fldp ?_ | refine W.nck ?_ | refine W.scalS (Own.slT (by assumption)) ?_))
  refine W.stT hl hn (Nat.le_of_ble_eq_true (by rfl)) fun τ6 H6 hl hnτ6 => ?_
  replace hvc := hvc.hop H6
  replace hvt := hvt.hop H6
  replace hm := hm.hop H6
  replace hvs := hvs.hop H6
  replace hx := hx.hop H6
  replace hz := hz.hop H6
  replace hb := hb.hop H6
  replace hcx := hcx.hop H6
  replace HH := HH.hop H6
  replace hn := H6.tn
  repeat' (with_reducible (first | refine W.bind ?_ | refine W.len (by assumption) ?_))
  rw [hcv]
  refine W.mono (addBy_w hn hl hz (normL_nodup c) hm hb (fun y => Nat.le_trans (idsBy_len ..) cl) (by omega)) fun r hr => ?_
  obtain ⟨r, τ7⟩ := r
  obtain ⟨_, T7, qs, H7, hm, hb⟩ := hr
  dsimp only at H7 hm hb ⊢
  replace hl := hl.hop H7
  replace hvc := hvc.hop H7
  replace hvt := hvt.hop H7
  replace hvs := hvs.hop H7
  replace hx := hx.hop H7
  replace hz := hz.hop H7
  replace hcx := hcx.hop H7
  replace HH := HH.hop H7
  replace hn := H7.tn
  repeat' (with_reducible (first | refine W.bind ?_ | refine W.len (by assumption) ?_))
  refine W.mono (addSmall_w (f := idsBy cls smallP) (id := cls.length) hn hl hvs (Nat.le_trans (idsBy_len ..) cl) (c := normL c)) fun r hr => ?_
  obtain ⟨r, τ8⟩ := r
  obtain ⟨vs', T8, H8, hl, hvs⟩ := hr
  dsimp only at H8 hl hvs ⊢
  replace hvc := hvc.hop H8
  replace hvt := hvt.hop H8
  replace hm := hm.hop H8
  replace hb := hb.hop H8
  replace hcx := hcx.hop H8
  replace HH := HH.hop H8
  replace hz := hz.hop H8
  replace hn := H8.tn
  repeat' (with_reducible (first | refine W.asI ?_ | refine W.fldp ?_ | refine W.nck ?_ | refine W.ldL (Loc.up (by assumption)) (by with_unfolding_all rfl) ?_))
  refine W.stT hl hn (Nat.le_of_ble_eq_true (by rfl)) fun τ9 H9 hl hnτ9 => ?_
  replace hvc := hvc.hop H9
  replace hvt := hvt.hop H9
  replace hm := hm.hop H9
  replace hvs := hvs.hop H9
  replace hb := hb.hop H9
  replace hcx := hcx.hop H9
  replace HH := HH.hop H9
  replace hz := hz.hop H9
  replace hn := H9.tn
  repeat' (with_reducible refine W.ret ?_)
  refine ⟨by simp [hR], fun h => absurd hR h, fun _ => ⟨T8, HH, ⟨vc', vt', lm, vs', _, qs, _, hl, hvc, ?_, ?_, ?_, hm, ?_, ?_⟩, ?_, ?_, vl, ?_, ?_⟩⟩
  · simp [hcv]
  · intro id d hd
    rw [clAt_snoc] at hd
    by_cases he : id = cls.length
    · rw [if_pos he] at hd; cases hd
      exact ⟨z, by rw [he, ← hcv]; simp, hz⟩
    · rw [if_neg he] at hd
      obtain ⟨x, h1, h2⟩ := hcx id d hd
      exact ⟨x, by rw [List.getElem?_append_left (by rw [hcv]; exact clAt_lt hd)]; exact h1, h2⟩
  · rw [List.map_append]; exact hvt
  · intro y
    have := hb y
    dsimp only at this ⊢
    rw [idsBy_snoc]
    have e : (if hasP y (normL c) = true then [(cls.length : Int)] else []) = if y ∈ normL c then [(cls.length : Int)] else [] := by simp [hasP]
    rw [e]; exact this
  · rw [idsBy_snoc]
    have e : (if smallP (normL c) = true then [(cls.length : Int)] else []) = if (normL c).length < 2 then [(cls.length : Int)] else [] := by simp [smallP]
    rw [e]; exact hvs
  · intro d hd
    rw [lv_snoc] at hd
    rcases List.mem_append.1 hd with hd | hd
    · exact ok d hd
    · rw [List.mem_singleton.1 hd]; exact rightC_norm.2 hR
  · intro d hd
    rw [lv_snoc] at hd
    rcases List.mem_append.1 hd with hd | hd
    · exact nm d hd
    · rw [List.mem_singleton.1 hd]; exact normL_idem c
  · simp; omega
  · intro d hd
    rw [lv_snoc] at hd
    rcases List.mem_append.1 hd with hd | hd
    · exact ll d hd
    · rw [List.mem_singleton.1 hd]; omega
end Go.Proofs.YtgneblbblihaoaaGreatDoor.A

/- A base of clauses in the heap: equal lists, what is left, find, Drop, New. -/
namespace Go.Proofs.YtgneblbblihaoaaGreatDoor.A
open Go
theorem equal_w {σ : Heap} {xs ys : List Int} {x y : AVal} (hx : SlV .int σ xs x) (hy : SlV .int σ ys y) (hb : xs.length ≤ 1000000000) : W (S.slices_Equal_int_int x y σ) fun r => r = decide (xs = ys) := by
  unfold S.slices_Equal_int_int
  repeat' (with_reducible refine W.len (by assumption) ?_)
  (with_reducible refine W.cnd (fun hc => ?_) (fun hc => ?_) <;> (try simp only [q1, q2, q3, q4, q5, q6, q7, q8, q9, q10, q11, q12, q13, q14, q15, q16, q17, q18, q19, q20, q21, q22, q23, q24, q25, q26, q27, q28, q29, q30, Kd.ty] at hc) <;> (try (exfalso; omega)))
  · repeat' (with_reducible refine W.ret ?_)
    simp only [decide_eq_false_iff_not.2 (show ¬ xs = ys from fun e => by subst e; omega)]
  · repeat' (with_reducible (first | refine W.bind ?_ | refine W.len (by assumption) ?_))
    have hl : xs.length = ys.length := by omega
    refine W.loopP xs.length (fun i z => z = (i : Int) ∧ xs.take i = ys.take i) ⟨rfl, rfl⟩ fun i z hi hI => ?_
    obtain ⟨rfl, hI⟩ := hI
    unfold S.slices_Equal_int_int.b0
    (with_reducible refine W.cnd (fun hc => ?_) (fun hc => ?_) <;> (try simp only [q1, q2, q3, q4, q5, q6, q7, q8, q9, q10, q11, q12, q13, q14, q15, q16, q17, q18, q19, q20, q21, q22, q23, q24, q25, q26, q27, q28, q29, q30, Kd.ty] at hc) <;> (try (exfalso; omega)))
    · obtain ⟨a, ha⟩ : ∃ a, xs[i]? = some a := ⟨_, List.getElem?_eq_getElem (by omega)⟩
      obtain ⟨b, hb⟩ : ∃ b, ys[i]? = some b := ⟨_, List.getElem?_eq_getElem (by omega)⟩
      repeat' (with_reducible refine W.ixIc (by assumption) (by assumption) ?_)
      (with_reducible refine W.cnd (fun he => ?_) (fun he => ?_) <;> (try simp only [q1, q2, q3, q4, q5, q6, q7, q8, q9, q10, q11, q12, q13, q14, q15, q16, q17, q18, q19, q20, q21, q22, q23, q24, q25, q26, q27, q28, q29, q30, Kd.ty] at he) <;> (try (exfalso; omega)))
      · repeat' (with_reducible (first | refine W.stopP ?_ | refine W.ret ?_))
        have : xs ≠ ys := fun e => by subst e; rw [ha] at hb; cases hb; exact he rfl
        simp [this]
      · repeat' (with_reducible refine W.nextP ?_)
        subst he
        exact ⟨by omega, sk, by rw [take_snoc ha, take_snoc hb, hI]⟩
    · repeat' (with_reducible (first | refine W.stopP ?_ | refine W.ret ?_))
      rw [List.take_of_length_le (by omega), List.take_of_length_le (by omega)] at hI
      simp [hI]

/-- The end of a list is cleared and cut off. -/
theorem Own.cut {σ : Heap} {T : Tg} {t i : Nat} {ys : List Int} {x : AVal} (h : Own .int (σ.at T t) ys x) (hn : Tn σ T) (hi : i ≤ ys.length) : ∃ x1 x2 τ, (∀ {R : Type} (K : AVal → Option R), slS σ 1 x (i : Int) none none K = K x1) ∧
    (∀ {R : Type} (K : Heap → Option R), clearK σ 1 [.int .i64 0] x1 K = K τ) ∧ (∀ {R : Type} (K : AVal → Option R), slS τ 1 x 0 (some (i : Int)) none K = K x2) ∧ Own .int (τ.at T t) (ys.take i) x2 ∧ Hop (only t) σ T τ T := by
  rcases h with ⟨rfl, rfl⟩ | ⟨l, off, c, cs, rfl, h2, h3, h6, h4, h5⟩
  · have : i = 0 := by simpa using hi
    subst this
    exact ⟨.nils, .nils, σ, fun K => by simp [slS], fun K => rfl, fun K => by simp [slS], by simpa using Own.nil, Hop.refl hn⟩
  · obtain ⟨hT, hg⟩ := at_get.1 h3
    have hrl : ∀ n : Nat, (rep n [AVal.int .i64 0]).length = n := fun n => by
      induction n with
      | zero => rfl
      | succ n ih => simp [rep, ih]
    simp only [Vw.int, Nat.mul_one] at h4 h6
    have e1 : ∀ {R : Type} (K : AVal → Option R), slS σ 1 (.sl l off ys.length c) (i : Int) none none K = K (.sl l (off + i) (ys.length - i) (clipTo none c i)) := fun K => by
      have hg : σ.get l = some (.cells .rw 1 cs) := hg
      simp only [slS, hg]
      rw [if_pos ⟨trivial, by omega, by simp; omega, by simp, by simp, by simp⟩]
      simp
    have fin : ∀ τ cs', τ.next = σ.next → τ.get l = some (.cells .rw 1 cs') → cs'.length = cs.length → cs'.take (off + i) = cs.take (off + i) → Hop (only t) σ T τ T → (∀ {R : Type} (K : Heap → Option R), clearK σ 1 [.int .i64 0] (.sl l (off + i) (ys.length - i) (clipTo none c i)) K = K τ) →
        ∃ x1 x2 τ, (∀ {R : Type} (K : AVal → Option R), slS σ 1 (.sl l off ys.length c) (i : Int) none none K = K x1) ∧ (∀ {R : Type} (K : Heap → Option R), clearK σ 1 [.int .i64 0] x1 K = K τ) ∧ (∀ {R : Type} (K : AVal → Option R), slS τ 1 (.sl l off ys.length c) 0 (some (i : Int)) none K = K x2) ∧ Own .int (τ.at T t) (ys.take i) x2 ∧ Hop (only t) σ T τ T := fun τ cs' hx hgt hlen htk H hc => by
      refine ⟨_, .sl l off i (clipTo none c 0), τ, e1, hc, fun K => ?_, .inr ⟨l, off, _, cs', by rw [List.length_take, Nat.min_eq_left hi], by rw [show (τ.at T t).next = σ.next from hx]; exact h2, at_of hT hgt, fun k e => ?_, by simp [Vw.int]; omega, fun j b hj => ?_⟩, H⟩
      · simp only [slS, hgt]
        rw [if_pos ⟨trivial, by omega, by simp, by simp; omega, by simp, by simp⟩]
        simp
      · cases c with
        | none => simp [clipTo] at e
        | some m => simp [clipTo] at e; subst e; have := h6 m rfl; simp [Vw.int]; omega
      · rw [List.getElem?_take] at hj
        split at hj
        · have := h5 j b hj
          have this : (cs.drop ((off + j) * 1)).take 1 = [.int .i64 b] := this
          show (cs'.drop ((off + j) * 1)).take 1 = [.int .i64 b]
          rw [← this]
          refine win fun q hq => ?_
          have e2 : ∀ ds : List AVal, ds[(off + j) * 1 + q]? = (ds.take (off + i))[(off + j) * 1 + q]? := fun ds => by rw [List.getElem?_take_of_lt (by omega)]
          rw [e2 cs', e2 cs, htk]
        · cases hj
    have hg : σ.get l = some (.cells .rw 1 cs) := hg
    by_cases h0 : ys.length - i = 0
    · exact fin σ cs rfl hg rfl rfl (Hop.refl hn) fun K => by simp only [clearK, if_pos h0]
    · refine fin (σ.set l (.cells .rw 1 (cs.take (off + i) ++ rep (ys.length - i) [AVal.int .i64 0] ++ cs.drop (off + i + (ys.length - i))))) _ rfl (get_setV ..) (by simp [hrl]; omega) ?_ (hop_set hn hT) fun K => ?_
      · rw [List.append_assoc, List.take_append_of_le_length (by simp; omega), List.take_take, Nat.min_self]
      · simp only [clearK, if_neg h0, hg, if_true, Nat.mul_one, stC, hrl]
        rw [if_pos (by omega)]

theorem deleteFunc_w {σ : Heap} {T : Tg} {t : Nat} {xs : List Int} {x f : AVal} (p : Int → Bool) (hn : Tn σ T) (h : Own .int (σ.at T t) xs x) (hl : xs.length ≤ 1000000000)
    (hf0 : ∀ n ∈ xs, ∀ {Rt : Type} (K : AVal → Heap → Option Rt), callV S.slices_IndexFunc_int_int.T f [.int .i64 n] σ K = K (.bool (p n)) σ)
    (hf : ∀ τ, Hop (only t) σ T τ T → ∀ n ∈ xs, ∀ {Rt : Type} (K : AVal → Heap → Option Rt), callV S.slices_DeleteFunc_int_int.T f [.int .i64 n] τ K = K (.bool (p n)) τ) :
    W (S.slices_DeleteFunc_int_int x f σ) fun r => Hop (only t) σ T r.2 T ∧ Own .int (r.2.at T t) (xs.filter fun n => !p n) r.1 := by
  unfold S.slices_DeleteFunc_int_int
  refine W.call (indexFunc_w p h.slT (by omega) hf0) fun r hr => ?_
  obtain ⟨r, τ⟩ := r
  obtain ⟨rfl, hr⟩ := hr
  dsimp only at hr ⊢
  cases hk : xs.findIdx? p with
  | none =>
    rw [hk] at hr
    dsimp only at hr; subst hr
    rw [List.findIdx?_eq_none_iff] at hk
    repeat' (first | (with_reducible refine W.ret ?_) | (with_reducible refine W.condT ?_ ?_; focus (first | (simp only [q1, q2, q3, q4, q5, q6, q7, q8, q9, q10, q11, q12, q13, q14, q15, q16, q17, q18, q19, q20, q21, q22, q23, q24, q25, q26, q27, q28, q29, q30, Kd.ty]; done) | (simp only [q1, q2, q3, q4, q5, q6, q7, q8, q9, q10, q11, q12, q13, q14, q15, q16, q17, q18, q19, q20, q21, q22, q23, q24, q25, q26, q27, q28, q29, q30, Kd.ty]; omega) | assumption)))
    refine ⟨Hop.refl hn, ?_⟩
    rw [List.filter_eq_self.2 fun a ha => by simp [hk a ha]]; exact h
  | some k =>
    rw [hk] at hr
    dsimp only at hr; subst hr
    rw [List.findIdx?_eq_some_iff_getElem] at hk
    obtain ⟨k1, k2, k3⟩ := hk
    refine W.condF (by simp) ?_
    rw [sk]
    refine W.call (P := fun r => ∃ (i : Nat) (ys : List Int), r.1 = (i : Int) ∧ Hop (only t) τ T r.2 T ∧ Own .int (r.2.at T t) ys x ∧ i ≤ ys.length ∧ ys.take i = xs.filter fun n => !p n) ?_ fun r hr => ?_
    · refine W.loop (xs.length - (k + 1)) (fun m (y : Int × Int) τ' => ∃ (i : Nat) (ys : List Int), y = ((i : Int), ((k + 1 + m : Nat) : Int)) ∧ Hop (only t) τ T τ' T ∧ Own .int (τ'.at T t) ys x ∧ ys.length = xs.length ∧ i < k + 1 + m ∧ ys.take i = (xs.take (k + 1 + m)).filter (fun n => !p n) ∧ ys.drop (k + 1 + m) = xs.drop (k + 1 + m))
        ⟨k, xs, rfl, Hop.refl hn, h, rfl, by omega, ?_, rfl⟩ fun m y τ' hi hI => ?_
      · rw [Nat.add_zero, List.take_add_one, List.getElem?_eq_getElem k1, List.filter_append, List.filter_eq_self.2]
        · simp [k2]
        · intro a ha
          obtain ⟨j, hj, e⟩ := List.getElem_of_mem ha
          simp at hj e
          have := k3 j (by omega)
          simp [← e, this]
      · obtain ⟨i, ys, rfl, H, hO, hlen, hlt, ht, hd⟩ := hI
        replace hn := H.tn
        unfold S.slices_DeleteFunc_int_int.b0
        repeat' (with_reducible refine W.len (Own.slT (by assumption)) ?_)
        (with_reducible refine W.cnd (fun hc => ?_) (fun hc => ?_) <;> (try simp only [q1, q2, q3, q4, q5, q6, q7, q8, q9, q10, q11, q12, q13, q14, q15, q16, q17, q18, q19, q20, q21, q22, q23, q24, q25, q26, q27, q28, q29, q30, Kd.ty] at hc) <;> (try (exfalso; omega)))
        · obtain ⟨a, ha⟩ : ∃ a, xs[k + 1 + m]? = some a := ⟨_, List.getElem?_eq_getElem (by omega)⟩
          have hya : ys[k + 1 + m]? = some a := by
            have e1 := congrArg (·[0]?) hd
            simpa [ha] using e1
          have hd2 : ys.drop (k + 1 + m + 1) = xs.drop (k + 1 + m + 1) := by
            rw [← List.drop_drop, hd, List.drop_drop]
          repeat' (with_reducible (first | refine W.bind ?_ | refine W.ixIc (Own.slT (by assumption)) (by assumption) ?_))
          refine W.to (hf _ H a (List.mem_of_getElem? ha) _) ?_
          have hsk : IntKind.i64.wrap (((k + 1 + m : Nat) : Int) + 1) = ((k + 1 + (m + 1) : Nat) : Int) := by rw [sk]; rfl
          repeat' (with_reducible refine W.asB ?_)
          (with_reducible refine W.cnd (fun hp => ?_) (fun hp => ?_) <;> (try simp only [q1, q2, q3, q4, q5, q6, q7, q8, q9, q10, q11, q12, q13, q14, q15, q16, q17, q18, q19, q20, q21, q22, q23, q24, q25, q26, q27, q28, q29, q30, Kd.ty] at hp) <;> (try (exfalso; omega)))
          · refine W.ixO hO.slT (by omega) ?_
            refine W.own_setI hO hn (by omega) fun τ2 hO2 H2 hn2 => ?_
            repeat' (with_reducible (first | refine W.next ?_ | refine W.ret ?_))
            rw [sk, hsk]
            refine ⟨by omega, i + 1, _, rfl, H.trans H2, hO2, by simpa using hlen, by omega, ?_, ?_⟩
            · rw [← Nat.add_assoc, take_snoc ha, List.filter_append, ← ht, List.take_add_one, List.take_set_of_le (by omega), List.getElem?_set_self (by omega)]
              simp [hp]
            · rw [List.drop_set_of_lt (by omega)]; exact hd2
          · repeat' (with_reducible (first | refine W.next ?_ | refine W.ret ?_))
            rw [hsk]
            refine ⟨by omega, i, ys, rfl, H, hO, hlen, by omega, ?_, hd2⟩
            rw [← Nat.add_assoc, take_snoc ha, List.filter_append, ← ht]
            simp [hp]
        · repeat' (with_reducible refine W.stop ?_)
          rw [List.take_of_length_le (l := xs) (by omega)] at ht
          exact ⟨i, ys, rfl, H, hO, by omega, ht⟩
    · obtain ⟨r, τ'⟩ := r
      obtain ⟨i, ys, e, H, hO, hi, ht⟩ := hr
      dsimp only at e H hO ⊢
      subst e
      obtain ⟨x1, x2, τ2, e1, e2, e3, hO2, H2⟩ := hO.cut H.tn hi
      refine W.to (e1 _) (W.to (e2 _) (W.to (e3 _) ?_))
      repeat' (with_reducible refine W.ret ?_)
      rw [← ht]
      exact ⟨H.trans H2, hO2⟩
theorem gone_w {σ : Heap} {T : Tg} {t : Nat} {xs : List Int} {x : AVal} {id : Int} (ht0 : t ≠ 0) (hn : Tn σ T) (h : Own .int (σ.at T t) xs x) (hl : xs.length ≤ 1000000000) :
    W (S.rup_gone x id σ) fun r => Hop (only t) σ T r.2 T ∧ Own .int (r.2.at T t) (xs.filter fun n => !(n == id)) r.1 := by
  unfold S.rup_gone
  refine W.new0 hn fun k τ hk L hb hn1 => ?_
  refine W.call (deleteFunc_w (fun n => n == id) hn1 (h.hle L) hl (fun n hn' Rt K => ?_) (fun τ' H n hn' Rt K => ?_)) fun r hr => ?_
  · have hcell := hb.up.at.cell (k := 0) rfl
    show ((S.rup_gone_1 n (.ptr k 0) τ).bind fun x => K (retV [.B] x) τ) = _
    unfold S.rup_gone_1
    simp only [ld, hcell, asK, if_true, Option.bind_some]
    rfl
  · have hcell := (hb.hop H (by simpa using fun e => ht0 e.symm)).up.at.cell (k := 0) rfl
    show ((S.rup_gone_1 n (.ptr k 0) τ').bind fun x => K (retV [.B] x) τ') = _
    unfold S.rup_gone_1
    simp only [ld, hcell, asK, if_true, Option.bind_some]
    rfl
  · repeat' (with_reducible refine W.ret ?_)
    exact ⟨(Hop.of hn L).trans hr.1, hr.2⟩
end Go.Proofs.YtgneblbblihaoaaGreatDoor.A

/- A base of clauses in the heap: find, Drop, New. -/
namespace Go.Proofs.YtgneblbblihaoaaGreatDoor.A
open Go
theorem drop_find {α : Type} {L : List α} {P : α → Bool} {i : Nat} {a : α} (ha : L[i]? = some a) : (L.drop i).find? P = if P a = true then some a else (L.drop (i + 1)).find? P := by
  rw [drop_at ha, List.find?_cons]
  cases h : P a <;> simp
theorem find_w {σ : Heap} {T : Tg} {l vars : Nat} {cls : Cls} {c : List Int} {x : AVal} (h : BaseS σ T l vars cls) (hn : Tn σ T) (hx : SlV .int (σ.at T 0) c x) (hin : c.all inB = true) (hcl : c.length ≤ 1000000) :
    W (S.rup_Base_find (.ptr l 0) x σ) fun r => Hle σ r.2 ∧ r.1 = match findC cls (normL c) with
      | some k => (k : Int)
      | none => -1 := by
  obtain ⟨⟨vc, vt, lm, vs, many, ps, cv, hl, hvc, hcv, hcx, hvt, hm, hb, hvs⟩, ok, nm, vl, cl, ll⟩ := h
  unfold S.rup_Base_find
  refine W.call (norm0_w hx.up hin hcl) fun r hr2 => ?_
  obtain ⟨⟨z, sy⟩, τ⟩ := r
  obtain ⟨_, L, hz⟩ := hr2
  dsimp only at L hz ⊢
  have hz := hz.at0 fun k hk => hn.z k hk
  replace hl := hl.hle L
  replace hvc := hvc.hle L
  replace hvt := hvt.hle L
  replace hm := hm.hle L
  replace hvs := hvs.hle L
  replace hcx := hcx.hle L
  replace hb := hb.hle L
  replace hn := hn.mono L
  have hnl := normL_len c
  repeat' (with_reducible (first | refine W.bind ?_ | refine W.asV ?_ | refine W.fldp ?_ | refine W.len (by assumption) ?_ | refine W.nck ?_ | refine W.ldL (Loc.up (by assumption)) (by with_unfolding_all rfl) ?_))
  refine W.mono (P := fun r => ∃ p, p (normL c) = true ∧ SlV .int τ (idsBy cls p) r.1 ∧ r.2 = τ) ?_ fun r hr => ?_
  · (with_reducible refine W.cnd (fun hc => ?_) (fun hc => ?_) <;> (try simp only [q1, q2, q3, q4, q5, q6, q7, q8, q9, q10, q11, q12, q13, q14, q15, q16, q17, q18, q19, q20, q21, q22, q23, q24, q25, q26, q27, q28, q29, q30, Kd.ty] at hc) <;> (try (exfalso; omega)))
    · obtain ⟨a, ha⟩ : ∃ a, (normL c)[0]? = some a := ⟨_, List.getElem?_eq_getElem (by omega)⟩
      repeat' (with_reducible (first | refine W.asV ?_ | refine W.fldp ?_ | refine W.nck ?_ | refine W.ldL (Loc.up (by assumption)) (by with_unfolding_all rfl) ?_))
      refine W.ixI hz.up (i := 0) (by simpa using ha) (by omega) ?_
      repeat' (with_reducible (first | refine W.ret ?_ | refine W.mgetT (by assumption) ?_))
      exact ⟨hasP a, by simp [hasP, List.mem_of_getElem? ha], (hb a).slT, rfl⟩
    · repeat' (with_reducible refine W.ret ?_)
      exact ⟨smallP, by simp [smallP]; omega, hvs.slT, rfl⟩
  · obtain ⟨r, τ'⟩ := r
    obtain ⟨p, hp, hy, e⟩ := hr
    dsimp only at hy e ⊢
    subst e
    have hidl := idsBy_len cls p
    repeat' (with_reducible (first | refine W.bind ?_ | refine W.len (by assumption) ?_))
    refine W.loopP (idsBy cls p).length (fun i y => y = (i : Int) ∧ findC cls (normL c) = (((List.range cls.length).filter (hits cls p)).drop i).find? fun id => decide (clAt cls id = some (normL c))) ⟨rfl, by rw [findC_ids hp]; rfl⟩ fun i y hi hI => ?_
    obtain ⟨rfl, hI⟩ := hI
    unfold S.rup_Base_find.b0
    (with_reducible refine W.cnd (fun hc => ?_) (fun hc => ?_) <;> (try simp only [q1, q2, q3, q4, q5, q6, q7, q8, q9, q10, q11, q12, q13, q14, q15, q16, q17, q18, q19, q20, q21, q22, q23, q24, q25, q26, q27, q28, q29, q30, Kd.ty] at hc) <;> (try (exfalso; omega)))
    · obtain ⟨id, hid⟩ : ∃ id, ((List.range cls.length).filter (hits cls p))[i]? = some id := ⟨_, List.getElem?_eq_getElem (by simpa [idsBy] using hc)⟩
      have hia : (idsBy cls p)[i]? = some (id : Int) := by unfold idsBy; rw [List.getElem?_map, hid]; rfl
      obtain ⟨c', hc', _⟩ := hits_iff.1 (List.mem_filter.1 (List.mem_of_getElem? hid)).2
      obtain ⟨x', hx1, hx2⟩ := hcx id c' hc'
      have hth : (cls.map Option.isSome)[id]? = some true := by rw [List.getElem?_map, clAt_some.1 hc']; rfl
      repeat' (with_reducible (first | refine W.bind ?_ | refine W.asV ?_ | refine W.fldp ?_ | refine W.ixIc (by assumption) (by assumption) ?_ | refine W.nck ?_ | refine W.ldL (Loc.up (by assumption)) (by with_unfolding_all rfl) ?_ | refine W.ixBc (Own.slT (by assumption)) (by assumption) ?_))
      refine W.condT rfl ?_
      repeat' (with_reducible (first | refine W.asV ?_ | refine W.fldp ?_ | refine W.nck ?_ | refine W.ldL (Loc.up (by assumption)) (by with_unfolding_all rfl) ?_))
      refine W.ixV hvc.slT hx1 ?_
      refine W.bind ?_
      refine W.mono (equal_w hx2.up hz.up (Nat.le_trans (ll c' (lv_mem.2 ⟨id, hc'⟩)) (by omega))) fun r hr => ?_
      subst hr
      repeat' (with_reducible refine W.ret ?_)
      rw [drop_find hid] at hI
      (with_reducible refine W.cnd (fun he => ?_) (fun he => ?_) <;> (try simp only [q1, q2, q3, q4, q5, q6, q7, q8, q9, q10, q11, q12, q13, q14, q15, q16, q17, q18, q19, q20, q21, q22, q23, q24, q25, q26, q27, q28, q29, q30, Kd.ty] at he) <;> (try (exfalso; omega)))
      · repeat' (with_reducible (first | refine W.stopP ?_ | refine W.ret ?_))
        subst he
        rw [if_pos (by simpa using hc')] at hI
        rw [hI]
        exact ⟨L, rfl⟩
      · repeat' (with_reducible refine W.nextP ?_)
        rw [if_neg (by simpa [hc'] using he)] at hI
        exact ⟨by omega, sk, hI⟩
    · repeat' (with_reducible (first | refine W.stopP ?_ | refine W.ret ?_))
      rw [List.drop_eq_nil_of_le (by simpa [idsBy] using hc)] at hI
      rw [hI]
      exact ⟨L, rfl⟩

theorem dropBy_w {σ : Heap} {T : Tg} {l : Nat} {id : Int} {a0 a1 a2 : AVal} {lm : Nat} {us : List AVal} {c : List Int} {x : AVal} {ps : List (Int × AVal)} {f : Int → List Int} (hn : Tn σ T) (hl : Loc (σ.at T 1) l (a0 :: a1 :: a2 :: .map lm :: us)) (hc : SlV .int (σ.at T 0) c x) (hd : c.Nodup)
    (hm : MapV (σ.at T 4) lm ps) (hb : AllBy σ T f ps) (hfl : ∀ y, (f y).length ≤ 1000000) (hcl : c.length ≤ 1000000) :
    W (loopW (S.rup_Base_Drop.b0 (.ptr l 0) id x (c.length : Int)) 0 σ) fun r => r.1 = () ∧ ∃ T' qs, Hop (fun j => j == 4 || Nat.ble 20 j) σ T r.2 T' ∧ MapV (r.2.at T' 4) lm qs ∧ AllBy r.2 T' (fun y => if y ∈ c then (f y).filter (fun n => !(n == id)) else f y) qs := by
  refine W.loop c.length (fun i (y : Int) τ => y = (i : Int) ∧ ∃ T' qs, Hop (fun j => j == 4 || Nat.ble 20 j) σ T τ T' ∧ MapV (τ.at T' 4) lm qs ∧ AllBy τ T' (fun y => if y ∈ c.take i then (f y).filter (fun n => !(n == id)) else f y) qs)
    ⟨rfl, T, ps, Hop.refl hn, hm, fun y => by simpa using hb y⟩ fun i y τ hi hI => ?_
  obtain ⟨rfl, T1, qs, H, hm, hb⟩ := hI
  replace hl := hl.mono (H.le rfl)
  have hc' := hc.mono (H.le rfl)
  replace hn := H.tn
  unfold S.rup_Base_Drop.b0
  (with_reducible refine W.cnd (fun hc => ?_) (fun hc => ?_) <;> (try simp only [q1, q2, q3, q4, q5, q6, q7, q8, q9, q10, q11, q12, q13, q14, q15, q16, q17, q18, q19, q20, q21, q22, q23, q24, q25, q26, q27, q28, q29, q30, Kd.ty] at hc) <;> (try (exfalso; omega)))
  · obtain ⟨a, ha⟩ : ∃ a, c[i]? = some a := ⟨_, List.getElem?_eq_getElem (by omega)⟩
    repeat' (with_reducible (first | refine W.bind ?_ | refine W.asV ?_ | refine W.chk rfl ?_ | refine W.fldp ?_ | refine W.nck ?_ | refine W.ldL (Loc.up (by assumption)) (by with_unfolding_all rfl) ?_ | refine W.ixIc (SlV.up (by assumption)) (by assumption) ?_ | refine W.mgetT (by assumption) ?_))
    have hba := hb a
    have hni := nodup_take hd ha
    dsimp only at hba
    rw [if_neg hni] at hba
    have hfa := hfl a
    have hg := tgL_ge a
    refine W.mono (gone_w (by omega) hn hba (by omega)) fun r hr => ?_
    obtain ⟨v, τ2⟩ := r
    obtain ⟨H2, hO⟩ := hr
    dsimp only at H2 hO ⊢
    replace hl := hl.mono (H2.le (by simp; omega))
    replace hm := hm.mono (H2.le (by simp; omega))
    replace hn := H2.tn
    repeat' (with_reducible (first | refine W.asV ?_ | refine W.chk rfl ?_ | refine W.ldL (Loc.up (by assumption)) (by with_unfolding_all rfl) ?_))
    refine W.mputT hm hn fun τ3 qs3 hm hq H3 hn3 => ?_
    repeat' (with_reducible refine W.next ?_)
    refine ⟨by omega, sk, T1, qs3, (H.trans (H2.sub fun j hj => by simp at hj ⊢; right; omega)).trans (H3.sub fun j hj => by simp at hj; simp [hj]), hm, fun z => ?_⟩
    have ht : c.take (i + 1) = c.take i ++ [a] := by rw [List.take_add_one, ha]; rfl
    rw [hq]
    dsimp only
    rw [ht]
    have hz4 : only 4 (tgL z) = false := by have := tgL_ge z; simp; omega
    by_cases hz : z = a
    · subst hz
      rw [if_pos rfl, if_pos (by simp)]
      exact hO.mono (H3.le hz4)
    · rw [if_neg hz]
      have hbz := hb z
      dsimp only at hbz
      have e : (if z ∈ c.take i ++ [a] then (f z).filter (fun n => !(n == id)) else f z) = if z ∈ c.take i then (f z).filter (fun n => !(n == id)) else f z := by simp [hz]
      rw [e]
      exact (hbz.mono (H2.le (by simp [tgL_inj, hz]))).mono (H3.le hz4)
  · repeat' (with_reducible refine W.stop ?_)
    rw [List.take_of_length_le (by omega)] at hb
    exact ⟨rfl, T1, qs, H, hm, hb⟩

/-- Dropping a clause. -/
theorem drop_w {σ : Heap} {T : Tg} {l vars : Nat} {cls : Cls} {c : List Int} {x : AVal} (h : BaseS σ T l vars cls) (hn : Tn σ T) (hx : SlV .int (σ.at T 0) c x) (hin : c.all inB = true) (hcl : c.length ≤ 1000000) :
    W (S.rup_Base_Drop (.ptr l 0) x σ) fun r => (r.1 = true ↔ normL c ∈ lv cls) ∧ ∃ T' cls', Hop own0 σ T r.2 T' ∧ BaseS r.2 T' l vars cls' ∧ lv cls' = (lv cls).erase (normL c) ∧ cls'.length = cls.length := by
  have hbase := h
  unfold S.rup_Base_Drop
  refine W.call (find_w h hn hx hin hcl) fun r hr => ?_
  obtain ⟨r, τ⟩ := r
  obtain ⟨L, hr⟩ := hr
  dsimp only at L hr ⊢
  cases hf : findC cls (normL c) with
  | none =>
    rw [hf] at hr
    dsimp only at hr; subst hr
    have := findC_none hf
    repeat' (first | (with_reducible refine W.ret ?_) | (with_reducible refine W.condT ?_ ?_; focus (first | (simp only [q1, q2, q3, q4, q5, q6, q7, q8, q9, q10, q11, q12, q13, q14, q15, q16, q17, q18, q19, q20, q21, q22, q23, q24, q25, q26, q27, q28, q29, q30, Kd.ty]; done) | (simp only [q1, q2, q3, q4, q5, q6, q7, q8, q9, q10, q11, q12, q13, q14, q15, q16, q17, q18, q19, q20, q21, q22, q23, q24, q25, q26, q27, q28, q29, q30, Kd.ty]; omega) | assumption)))
    exact ⟨by simp [this], T, cls, Hop.of hn L, h.hle L, (List.erase_of_not_mem this).symm, rfl⟩
  | some k =>
    rw [hf] at hr
    dsimp only at hr; subst hr
    obtain ⟨hk, _⟩ := findC_some hf
    have hlt := clAt_lt hk
    obtain ⟨⟨vc, vt, lm, vs, many, ps, cv, hl, hvc, hcv, hcx, hvt, hm, hb, hvs⟩, ok, nm, vl, cl, ll⟩ := h
    have HH : Hop own0 σ T σ T := Hop.refl hn
    replace hl := hl.hle L
    replace hvc := hvc.hle L
    replace hvt := hvt.hle L
    replace hm := hm.hle L
    replace hvs := hvs.hle L
    replace hcx := hcx.hle L
    replace hb := hb.hle L
    replace HH := HH.hle L
    replace hx := hx.hle L
    replace hn := hn.mono L
    obtain ⟨z, hz1, hz2⟩ := hcx k _ hk
    have hcn := ll _ (lv_mem.2 ⟨k, hk⟩)
    repeat' (first | (with_reducible (first | refine W.asV ?_ | refine W.fldp ?_ | refine W.nck ?_ | refine W.ldL (Loc.up (by assumption)) (by with_unfolding_all rfl) ?_)) | (with_reducible refine W.condF ?_ ?_; focus (first | (simp only [q1, q2, q3, q4, q5, q6, q7, q8, q9, q10, q11, q12, q13, q14, q15, q16, q17, q18, q19, q20, q21, q22, q23, q24, q25, q26, q27, q28, q29, q30, Kd.ty]; done) | (simp only [q1, q2, q3, q4, q5, q6, q7, q8, q9, q10, q11, q12, q13, q14, q15, q16, q17, q18, q19, q20, q21, q22, q23, q24, q25, q26, q27, q28, q29, q30, Kd.ty]; omega) | assumption)))
    refine W.ixV hvc.slT hz1 ?_
    repeat' (with_reducible (first | refine W.bind ?_ | refine W.len (by assumption) ?_))
    refine W.mono (dropBy_w (id := (k : Int)) hn hl hz2 (normL_nodup c) hm hb (fun y => Nat.le_trans (idsBy_len ..) cl) hcn) fun r hr => ?_
    obtain ⟨r, τ7⟩ := r
    obtain ⟨_, T7, qs, H7, hm, hb⟩ := hr
    dsimp only at H7 hm hb ⊢
    replace hl := hl.hop H7
    replace hvc := hvc.hop H7
    replace hvt := hvt.hop H7
    replace hvs := hvs.hop H7
    replace hx := hx.hop H7
    replace hcx := hcx.hop H7
    replace HH := HH.hop H7
    replace hn := H7.tn
    repeat' (with_reducible (first | refine W.bind ?_ | refine W.asV ?_ | refine W.fldp ?_ | refine W.nck ?_ | refine W.ldL (Loc.up (by assumption)) (by with_unfolding_all rfl) ?_))
    refine W.mono (gone_w (by decide) hn hvs (Nat.le_trans (idsBy_len ..) (by omega))) fun r hr => ?_
    obtain ⟨v, τ8⟩ := r
    obtain ⟨H8, hvs⟩ := hr
    dsimp only at H8 hvs ⊢
    replace hl := hl.hop H8
    replace hvc := hvc.hop H8
    replace hvt := hvt.hop H8
    replace hm := hm.hop H8
    replace hx := hx.hop H8
    replace hcx := hcx.hop H8
    replace HH := HH.hop H8
    replace hb := hb.hop H8
    replace hn := H8.tn
    repeat' (with_reducible (first | refine W.fldp ?_ | refine W.nck ?_ | refine W.scalS (Own.slT (by assumption)) ?_))
    refine W.stT hl hn (Nat.le_of_ble_eq_true (by rfl)) fun τ9 H9 hl hnτ9 => ?_
    replace hvc := hvc.hop H9
    replace hvt := hvt.hop H9
    replace hm := hm.hop H9
    replace hvs := hvs.hop H9
    replace hx := hx.hop H9
    replace hcx := hcx.hop H9
    replace HH := HH.hop H9
    replace hb := hb.hop H9
    replace hn := H9.tn
    repeat' (with_reducible (first | refine W.asV ?_ | refine W.fldp ?_ | refine W.nck ?_ | refine W.ldL (Loc.up (by assumption)) (by with_unfolding_all rfl) ?_))
    refine W.ixO hvc.slT (by omega) ?_
    refine W.own_setV hvc hn (by omega) fun τ10 hvc H10 hn10 => ?_
    replace hl := hl.hop H10
    replace hvt := hvt.hop H10
    replace hm := hm.hop H10
    replace hvs := hvs.hop H10
    replace hx := hx.hop H10
    replace hcx := hcx.hop H10
    replace HH := HH.hop H10
    replace hb := hb.hop H10
    replace hn := H10.tn
    refine W.ixO hvt.slT (by simpa using hlt) ?_
    refine W.own_setB hvt hn (by simpa using hlt) fun τ11 hvt H11 hn11 => ?_
    replace hl := hl.hop H11
    replace hvc := hvc.hop H11
    replace hm := hm.hop H11
    replace hvs := hvs.hop H11
    replace hx := hx.hop H11
    replace hcx := hcx.hop H11
    replace HH := HH.hop H11
    replace hb := hb.hop H11
    replace hn := H11.tn
    repeat' (with_reducible (first | refine W.asI ?_ | refine W.fldp ?_ | refine W.nck ?_ | refine W.ldL (Loc.up (by assumption)) (by with_unfolding_all rfl) ?_))
    refine W.stT hl hn (Nat.le_of_ble_eq_true (by rfl)) fun τ12 H12 hl hnτ12 => ?_
    replace hvc := hvc.hop H12
    replace hvt := hvt.hop H12
    replace hm := hm.hop H12
    replace hvs := hvs.hop H12
    replace hx := hx.hop H12
    replace hcx := hcx.hop H12
    replace HH := HH.hop H12
    replace hb := hb.hop H12
    replace hn := H12.tn
    repeat' (with_reducible refine W.ret ?_)
    have hmem : normL c ∈ lv cls := lv_mem.2 ⟨k, hk⟩
    have hsub : ∀ d ∈ lv (cls.set k none), d ∈ lv cls := fun d hd => by
      obtain ⟨id, e⟩ := lv_mem.1 hd
      rw [clAt_del] at e
      split at e
      · cases e
      · exact lv_mem.2 ⟨id, e⟩
    refine ⟨by simp [hmem], T7, cls.set k none, HH, ⟨⟨_, _, lm, _, _, qs, _, hl, hvc, ?_, ?_, ?_, hm, ?_, ?_⟩, fun d hd => ok d (hsub d hd), fun d hd => nm d (hsub d hd), vl, ?_, fun d hd => ll d (hsub d hd)⟩, lv_del hf, by simp⟩
    · simp [hcv]
    · intro id d hd
      rw [clAt_del] at hd
      split at hd
      · cases hd
      · rename_i hne
        obtain ⟨x, h1, h2⟩ := hcx id d hd
        exact ⟨x, by rw [List.getElem?_set_ne (fun e => hne e.symm)]; exact h1, h2⟩
    · rw [List.map_set]; exact hvt
    · intro y
      have := hb y
      dsimp only at this ⊢
      rw [idsBy_del]
      by_cases hy : y ∈ normL c
      · rw [if_pos hy] at this; exact this
      · rw [if_neg hy] at this
        rw [List.filter_eq_self.2 fun a ha => ?_]
        · exact this
        · obtain ⟨id, c', rfl, h1, h2⟩ := idsBy_mem.1 ha
          have hne : id ≠ k := fun e => by
            subst e; rw [hk] at h1; cases h1; simp [hasP] at h2; exact hy h2
          simp; omega
    · rw [idsBy_del]; exact hvs
    · simpa using cl

/-- New. -/
theorem newB_w {σ : Heap} {T : Tg} {vars : Nat} {cs : List (List Int)} {x : AVal} (hn : Tn σ T) (hx : SlV vIs (σ.at T 0) cs x) (hv : vars ≤ 4000) (hR : ∀ c ∈ cs, rightC vars c) (hl : cs.length < 1000000) (hcl : ∀ c ∈ cs, c.length ≤ 1000000) :
    W (S.rup_New (vars : Int) x σ) fun r => ∃ l T' cls, r.1 = (.ptr l 0, .nili) ∧ Hop own0 σ T r.2 T' ∧ BaseS r.2 T' l vars cls ∧ lv cls = cs.map normL ∧ cls.length = cs.length := by
  unfold S.rup_New
  refine W.eqn (cut_eq (by omega) (by omega)) ?_
  have HH : Hop own0 σ T σ T := Hop.refl hn
  have hx0 := hx
  refine W.newMT 4 hn fun lm τ T1 _ H1 hm hn1 => ?_
  replace hx := hx.hop H1
  replace HH := HH.hop H1
  replace hn := H1.tn
  refine W.newT 1 hn fun l τ2 T2 hl H2 hl1 hnτ2 => ?_
  replace hx := hx.hop H2
  replace hm := hm.hop H2
  replace HH := HH.hop H2
  replace hn := H2.tn
  repeat' (with_reducible (first | refine W.bind ?_ | refine W.len (by assumption) ?_))
  refine W.loop cs.length (fun i (y : Int) τ' => y = (i : Int) ∧ ∃ T' cls, Hop own0 σ T τ' T' ∧ BaseS τ' T' l vars cls ∧ lv cls = (cs.take i).map normL ∧ cls.length = i) ⟨rfl, T2, [], HH, ⟨⟨.nils, .nils, lm, .nils, 0, [], [], hl1, Own.nil, rfl, fun id c hc => by simp [clAt] at hc, Own.nil, hm, fun y => Own.nil, Own.nil⟩, fun c hc => by simp [lv] at hc, fun c hc => by simp [lv] at hc, hv, by simp, fun c hc => by simp [lv] at hc⟩, rfl, rfl⟩ fun i y τ' hi hI => ?_
  obtain ⟨rfl, T', cls, H, hB, hlv, hlen⟩ := hI
  have hx := hx0.hop H
  unfold S.rup_New.b0
  (with_reducible refine W.cnd (fun hc => ?_) (fun hc => ?_) <;> (try simp only [q1, q2, q3, q4, q5, q6, q7, q8, q9, q10, q11, q12, q13, q14, q15, q16, q17, q18, q19, q20, q21, q22, q23, q24, q25, q26, q27, q28, q29, q30, Kd.ty] at hc) <;> (try (exfalso; omega)))
  · refine W.ixLS hx at_le (by omega) fun c w hc hw => ?_
    have hmc := List.mem_of_getElem? hc
    refine W.call (add_w hB H.tn hw (hcl c hmc) (by omega)) fun r hr => ?_
    obtain ⟨r, τ2⟩ := r
    obtain ⟨h1, _, h3⟩ := hr
    dsimp only at h1 h3 ⊢
    have hr := h1.2 (hR c hmc)
    subst hr
    obtain ⟨T2, H2, hB2⟩ := h3 (hR c hmc)
    repeat' (first | (with_reducible refine W.next ?_) | (with_reducible refine W.condF ?_ ?_; focus (first | (simp only [q1, q2, q3, q4, q5, q6, q7, q8, q9, q10, q11, q12, q13, q14, q15, q16, q17, q18, q19, q20, q21, q22, q23, q24, q25, q26, q27, q28, q29, q30, Kd.ty]; done) | (simp only [q1, q2, q3, q4, q5, q6, q7, q8, q9, q10, q11, q12, q13, q14, q15, q16, q17, q18, q19, q20, q21, q22, q23, q24, q25, q26, q27, q28, q29, q30, Kd.ty]; omega) | assumption)))
    refine ⟨by omega, sk, T2, _, H.trans H2, hB2, ?_, by simp [hlen]⟩
    rw [lv_snoc, hlv, List.take_add_one, hc, List.map_append]; rfl
  · repeat' (with_reducible (first | refine W.stop ?_ | refine W.ret ?_))
    rw [List.take_of_length_le (by omega)] at hlv
    exact ⟨l, T', cls, rfl, H, hB, hlv, by omega⟩
end Go.Proofs.YtgneblbblihaoaaGreatDoor.A

/- What follows of literals at once: the program's way. -/
namespace Go.Proofs.YtgneblbblihaoaaGreatDoor.A
open Go
/-! ### As lists -/
def zeros (vs : List Int) : Nat := (vs.filter fun x => x == 0).length
theorem zeros_set : ∀ {vs : List Int} {i : Nat} {a : Int}, vs[i]? = some 0 → a ≠ 0 → zeros (vs.set i a) + 1 = zeros vs
  | [], i, a, h, _ => by simp at h
  | x :: t, 0, a, h, ha => by
    simp at h; subst h
    simp [zeros, ha]
  | x :: t, i + 1, a, h, ha => by
    have ih := zeros_set (vs := t) (i := i) (a := a) (by simpa using h) ha
    unfold zeros at ih ⊢
    by_cases hx : x = 0
    · simp [hx] at ih ⊢; omega
    · simp [hx] at ih ⊢; omega
theorem zeros_setV {vs : List Int} {l : Int} (hok : Vok vs) (h0 : l ≠ 0) (h1 : l.natAbs < vs.length) (hv : val vs l = 0) : zeros (setV vs l) + 1 = zeros vs := by
  unfold setV
  refine zeros_set ?_ (by split <;> omega)
  obtain ⟨a, ha⟩ : ∃ a, vs[l.natAbs]? = some a := ⟨_, List.getElem?_eq_getElem h1⟩
  have hg : vs.getD l.natAbs 0 = a := by rw [List.getD_eq_getElem?_getD, ha]; rfl
  have h3 := getD_ok hok l.natAbs
  unfold val at hv
  rw [hg] at hv h3
  rw [if_neg (by omega)] at hv
  rw [ha]
  congr 1
  split at hv <;> omega

/-- The values, the queue, what was looked at. -/
structure Cin (vars : Nat) (C : List (List Int)) (s vs q : List Int) (P : Int → Prop) (m : Nat) : Prop where
  ok : Vok vs
  len : vs.length = vars + 1
  snd : ∀ l, val vs l = 1 → Der C s l
  qd : ∀ l, val vs l = 1 → P l ∨ l ∈ q
  qt : ∀ l ∈ q, val vs l = 1
  pt : ∀ l, P l → val vs l = 1
  ms : zeros vs + q.length ≤ m
/-- A clause was looked at. -/
def GP (vs : List Int) (P : Int → Prop) (c : List Int) : Prop := (∀ l0 ∈ c, (∀ k ∈ c, k ≠ l0 → P (-k)) → val vs l0 = 1) ∧ ¬ ∀ k ∈ c, P (-k)
/-- What is true stays true. -/
def Vle (vs ws : List Int) : Prop := ∀ l, val vs l = 1 → val ws l = 1
theorem Vle.refl (vs : List Int) : Vle vs vs := fun _ h => h
theorem Vle.trans {a b c : List Int} (h : Vle a b) (k : Vle b c) : Vle a c := fun l hl => k l (h l hl)
theorem GP.mono {vs ws : List Int} {P : Int → Prop} {c : List Int} (h : GP vs P c) (L : Vle vs ws) : GP ws P c := ⟨fun l hl hk => L l (h.1 l hl hk), h.2⟩
section
variable {vars m : Nat} {C : List (List Int)} {s vs q c : List Int} {P : Int → Prop} {l : Int}
theorem val_neg1 (hv : Vok vs) : val vs (-l) = 1 ↔ val vs l = 2 := by
  have := val_ok hv l
  rw [val_neg hv]; split <;> omega
theorem Cin.set (h : Cin vars C s vs q P m) (h0 : l ≠ 0) (hl : l.natAbs ≤ vars) (hv : val vs l = 0) (hd : Der C s l) : Cin vars C s (setV vs l) (q ++ [l]) P m ∧ Vle vs (setV vs l) := by
  have hlt : l.natAbs < vs.length := by rw [h.len]; omega
  have hs := val_set h0 hlt
  have hm : Vle vs (setV vs l) := fun k hk => by
    rw [hs]
    split
    · rfl
    · split
      · rename_i e; subst e
        have := (val_neg1 h.ok).1 hk
        omega
      · exact hk
  refine ⟨⟨h.ok.set l, by rw [setV_len, h.len], fun k hk => ?_, fun k hk => ?_, fun k hk => ?_, fun k hk => hm k (h.pt k hk), ?_⟩, hm⟩
  · rw [hs] at hk
    split at hk
    · rename_i e; rw [e]; exact hd
    · split at hk
      · cases hk
      · exact h.snd k hk
  · rw [hs] at hk
    split at hk
    · rename_i e; right; simp [e]
    · split at hk
      · cases hk
      · exact (h.qd k hk).imp id fun e => by simp [e]
  · rcases List.mem_append.1 hk with hk | hk
    · exact hm k (h.qt k hk)
    · have : k = l := by simpa using hk
      rw [hs, if_pos this]
  · have := zeros_setV h.ok h0 hlt hv
    have := h.ms
    simp; omega
theorem Cin.conf2 (h : Cin vars C s vs q P m) (hd : Der C s l) (hv : val vs l = 2) : Conf C s := .inl ⟨l, hd, h.snd _ ((val_neg1 h.ok).2 hv)⟩
theorem Cin.confC (h : Cin vars C s vs q P m) (hc : c ∈ C) (hv : ∀ k ∈ c, val vs k = 2) : Conf C s := .inr ⟨c, hc, fun k hk => h.snd _ ((val_neg1 h.ok).2 (hv k hk))⟩
theorem Cin.unit (h : Cin vars C s vs q P m) (hc : c ∈ C) (hl : l ∈ c) (hv : ∀ k ∈ c, k ≠ l → val vs k = 2) : Der C s l := .unit hc hl fun k hk hne => h.snd _ ((val_neg1 h.ok).2 (hv k hk hne))
/-- All was looked at: there is no conflict. -/
theorem Cin.done (h : Cin vars C s vs [] P m) (hG : ∀ c ∈ C, GP vs P c) (hs : ∀ l ∈ s, val vs l = 1) : ¬ Conf C s := by
  have hP : ∀ l, val vs l = 1 → P l := fun l hl => (h.qd l hl).elim id fun e => by cases e
  have key : ∀ l, Der C s l → val vs l = 1 := fun l hd => by
    induction hd with
    | start h => exact hs _ h
    | unit hc hl _ ih => exact (hG _ hc).1 _ hl fun k hk hne => hP _ (ih k hk hne)
  rintro (⟨l, h1, h2⟩ | ⟨c, hc, h1⟩)
  · have := key _ h1
    have := (val_neg1 h.ok).1 (key _ h2)
    omega
  · exact (hG c hc).2 fun k hk => hP _ (key _ (h1 k hk))
end
/-! ### In the heap -/
structure AsgT (σ : Heap) (T : Tg) (la lw : Nat) (vs : List Int) : Prop where
  r : AsgR σ la lw vs
  t1 : T la = 6
  t2 : T lw = 7
theorem AsgT.hop {I : Nat → Bool} {σ τ : Heap} {T T' : Tg} {la lw : Nat} {vs : List Int} (h : AsgT σ T la lw vs) (H : Hop I σ T τ T') (h6 : I 6 = false := by rfl) (h7 : I 7 = false := by rfl) : AsgT τ T' la lw vs := by
  obtain ⟨⟨⟨h1, sz, h2⟩, h3, h4, h5⟩, t1, t2⟩ := h
  exact ⟨⟨⟨Nat.lt_of_lt_of_le h1 H.next, sz, H.get _ _ h1 (by rw [t1]; exact h6) h2⟩, H.get _ _ h4 (by rw [t2]; exact h7) h3, Nat.lt_of_lt_of_le h4 H.next, h5⟩, (H.tag _ h1 (by rw [t1]; exact h6)).trans t1, (H.tag _ h4 (by rw [t2]; exact h7)).trans t2⟩
theorem hop_k {σ τ : Heap} {T : Tg} {l t : Nat} (hn : Tn σ T) (hl : T l = t) (L : Hle (σ.kill l) τ) : Hop (only t) σ T τ T := ⟨L.next, ⟨fun k hk => hn.z k (Nat.le_trans L.next hk)⟩, fun _ _ _ => rfl, fun k o hk hI hg => L.get k o hk (by
  rw [hkill_get, if_neg (fun e => by subst e; simp [only, hl] at hI)]; exact hg)⟩
theorem hop_tag {I : Nat → Bool} {σ τ : Heap} {T : Tg} {l t : Nat} (hn : Tn σ T) (L : Hle σ τ) (h1 : σ.next ≤ l) (h2 : l < τ.next) : Hop I σ T τ (T.upd l t) := ⟨L.next, ⟨fun k hk => by rw [upd_ne (by omega)]; exact hn.z k (Nat.le_trans L.next hk)⟩, fun k hk _ => upd_ne (by omega), fun k o hk _ hg => L.get k o hk hg⟩

theorem hop_tag2 {I : Nat → Bool} {σ τ : Heap} {T : Tg} {l t k u : Nat} (hn : Tn σ T) (L : Hle σ τ) (h1 : σ.next ≤ l) (h2 : l < τ.next) (h3 : σ.next ≤ k) (h4 : k < τ.next) : Hop I σ T τ ((T.upd l t).upd k u) := ⟨L.next, ⟨fun j hk => by rw [upd_ne (by omega), upd_ne (by omega)]; exact hn.z j (Nat.le_trans L.next hk)⟩, fun j hk _ => by rw [upd_ne (by omega), upd_ne (by omega)], fun k o hk _ hg => L.get k o hk hg⟩
/-- What the closure's functions share. -/
structure CS (σ : Heap) (T : Tg) (la lw l7 l10 : Nat) (vs q : List Int) : Prop where
  asg : AsgT σ T la lw vs
  box : Loc (σ.at T 8) l7 [.ptr la 0]
  left : ∃ x, Loc (σ.at T 9) l10 [x] ∧ Own .int (σ.at T 10) q x
abbrev clI : Nat → Bool := fun j => decide (6 ≤ j ∧ j ≤ 12)
theorem set_w {σ : Heap} {T : Tg} {la lw l7 l10 vars : Nat} {vs q : List Int} {l : Int} (h : CS σ T la lw l7 l10 vs q) (hn : Tn σ T) (hv : Vok vs) (hlen : vs.length = vars + 1) (hvl : vars ≤ 4000) (hq : q.length ≤ 1000000) (h0 : l ≠ 0) (hl : l.natAbs ≤ vars) :
    W (S.rup_Base_closure_1 l (.ptr l7 0) (.ptr l10 0) σ) fun r => ∃ T', Hop clI σ T r.2 T' ∧ ((val vs l = 1 ∧ r.1 = true ∧ CS r.2 T' la lw l7 l10 vs q) ∨ (val vs l = 2 ∧ r.1 = false) ∨ (val vs l = 0 ∧ r.1 = true ∧ CS r.2 T' la lw l7 l10 (setV vs l) (q ++ [l]))) := by
  obtain ⟨hA, hB, x, hL, hO⟩ := h
  have HH : Hop clI σ T σ T := Hop.refl hn
  have hin : inB l = true := by simp [inB]; omega
  have hok := val_ok hv l
  unfold S.rup_Base_closure_1
  repeat' (with_reducible (first | refine W.bind ?_ | refine W.asV ?_ | refine W.ldL (Loc.up (by assumption)) (by with_unfolding_all rfl) ?_))
  refine W.to (value_eq hA.r.v hv (by omega) (by omega) hin) ?_
  repeat' (with_reducible refine W.ret ?_)
  (with_reducible refine W.cnd (fun hc => ?_) (fun hc => ?_) <;> (try simp only [q1, q2, q3, q4, q5, q6, q7, q8, q9, q10, q11, q12, q13, q14, q15, q16, q17, q18, q19, q20, q21, q22, q23, q24, q25, q26, q27, q28, q29, q30, Kd.ty] at hc) <;> (try (exfalso; omega)))
  · repeat' (with_reducible refine W.ret ?_)
    exact ⟨T, HH, .inl ⟨hc, rfl, hA, hB, x, hL, hO⟩⟩
  · repeat' (with_reducible (first | refine W.asV ?_ | refine W.ldL (Loc.up (by assumption)) (by with_unfolding_all rfl) ?_))
    refine W.own_push Vw.int_flat hO hn (a := l) rfl (by omega) (by omega) fun x' τ T1 hO H1 => ?_
    replace hA := hA.hop H1
    replace hB := hB.hop H1
    replace hL := hL.hop H1
    replace HH := HH.hop H1
    replace hn := H1.tn
    repeat' (with_reducible refine W.scalS (Own.slT (by assumption)) ?_)
    refine W.stT hL hn (Nat.le_of_ble_eq_true (by rfl)) fun τ2 H2 hL hnτ2 => ?_
    replace hA := hA.hop H2
    replace hB := hB.hop H2
    replace hO := hO.hop H2
    replace HH := HH.hop H2
    replace hn := H2.tn
    repeat' (with_reducible (first | refine W.bind ?_ | refine W.asV ?_ | refine W.ldL (Loc.up (by assumption)) (by with_unfolding_all rfl) ?_))
    refine W.mono (asgSet_w hA.r hv (by omega) (by omega) hin) fun r hr => ?_
    obtain ⟨b, τ3⟩ := r
    rcases hr with ⟨⟨_, _, h2⟩, rfl, L3, hn3, hA3⟩ | ⟨h1, e⟩
    · dsimp only at L3 hn3 hA3 ⊢
      have H3 := hop_k hn hA.t2 L3
      have hA' : AsgT τ3 T1 la lw (setV vs l) := ⟨hA3, hA.t1, hA.t2⟩
      replace hB := hB.hop H3
      replace hL := hL.hop H3
      replace hO := hO.hop H3
      replace HH := HH.hop H3
      replace hn := H3.tn
      repeat' (with_reducible refine W.ret ?_)
      exact ⟨T1, HH, .inr (.inr ⟨by omega, rfl, hA', hB, x', hL, hO⟩)⟩
    · cases e
      repeat' (with_reducible refine W.ret ?_)
      have : val vs l = 2 := by omega
      exact ⟨T1, HH, .inr (.inl ⟨this, rfl⟩)⟩
/-- The function that sets. -/
structure SetF (f : AVal) (l7 l10 : Nat) : Prop where
  e2 : ∀ {R : Type} (l : Int) (σ : Heap) (K : AVal → Heap → Option R), callV S.rup_Base_closure_2.T f [.int .i64 l] σ K = (S.rup_Base_closure_1 l (.ptr l7 0) (.ptr l10 0) σ).bind fun r => K (.bool r.1) r.2
  e0 : ∀ {R : Type} (l : Int) (σ : Heap) (K : AVal → Heap → Option R), callV S.rup_Base_closure.T f [.int .i64 l] σ K = (S.rup_Base_closure_1 l (.ptr l7 0) (.ptr l10 0) σ).bind fun r => K (.bool r.1) r.2

section
variable {vars m : Nat} {C : List (List Int)} {s : List Int} {P : Int → Prop}
theorem Cin.good {vs q c : List Int} {r : Int × Int} {P' : Int → Prop} (h : Cin vars C s vs q P m) (hr : ClW vs c r) (hP : ∀ l, P' l → val vs l = 1) (h2 : r.1 ≠ 2) (h0 : r.2 = 0) : GP vs P' c := by
  have hP2 : ∀ k, P' (-k) → val vs k = 2 := fun k hk => (val_neg1 h.ok).1 (hP _ hk)
  refine ⟨fun l0 hl0 hk => ?_, fun hk => h2 (hr.bad.2 fun k hkc => hP2 k (hk k hkc))⟩
  rcases hr.many h2 h0 with ⟨k, hkc, hk1⟩ | ⟨j, hj, k, hkc, hne, h3, h4⟩
  · by_cases e : k = l0
    · rw [← e]; exact hk1
    · have := hP2 k (hk k hkc e); omega
  · exfalso
    by_cases e : j = l0
    · exact h4 (hP2 k (hk k hkc fun e2 => hne (e.trans e2.symm)))
    · exact h3 (hP2 j (hk j hj e))
end
/-- A clause is looked at: P' is what is taken as0 looked at then. -/
theorem look_w {σ : Heap} {T : Tg} {l vars la lw l7 l10 l1 l12 m id : Nat} {cls : Cls} {s vs q c : List Int} {P P' : Int → Prop} {f : AVal} (hB : BaseS σ T l vars cls) (hf : SetF f l7 l10) (hS : CS σ T la lw l7 l10 vs q) (hn : Tn σ T) (h1 : Loc (σ.at T 0) l1 [.ptr l 0]) (h12 : Loc (σ.at T 13) l12 [f])
    (hI : Cin vars ((lv cls)) s vs q P m) (hm : m ≤ 100000) (hc : clAt cls id = some c) (hP' : ∀ l, P' l → val vs l = 1) :
    W (S.rup_Base_closure_2 (id : Int) (.ptr l7 0) (.ptr l1 0) (.ptr l12 0) σ) fun r => ∃ T', Hop clI σ T r.2 T' ∧ ((r.1 = false ∧ Conf ((lv cls)) s) ∨ (r.1 = true ∧ ∃ vs' q', CS r.2 T' la lw l7 l10 vs' q' ∧ Cin vars ((lv cls)) s vs' q' P m ∧ Vle vs vs' ∧ GP vs' P' c)) := by
  obtain ⟨⟨vc, vt, lm, vs0, many, ps, cv, hl, hvc, hcv, hcx, hvt, hmm, hb, hvs⟩, ok, nm, vl, cl, ll⟩ := hB
  have hcm : c ∈ (lv cls) := lv_mem.2 ⟨id, hc⟩
  obtain ⟨x, hx1, hx2⟩ := hcx id c hc
  obtain ⟨hA, hBx, hleft⟩ := (show _ ∧ _ ∧ _ from ⟨hS.asg, hS.box, hS.left⟩)
  have hR := ok c hcm
  unfold S.rup_Base_closure_2
  repeat' (with_reducible (first | refine W.asV ?_ | refine W.fldp ?_ | refine W.nck ?_ | refine W.ldL (Loc.up (by assumption)) (by with_unfolding_all rfl) ?_))
  refine W.ixV hvc.slT hx1 ?_
  refine W.bind ?_
  refine W.mono (clause_w hA.r.v hI.ok (by rw [hI.len]; omega) (by rw [hI.len]; omega) hx2.up (fun k hk => ⟨by have := hR k hk; simp [inB]; omega, (hR k hk).1⟩) (ll c hcm)) fun r hr => ?_
  obtain ⟨w, z⟩ := r
  repeat' (with_reducible refine W.bind ?_)
  have HH : Hop clI σ T σ T := Hop.refl hn
  (with_reducible refine W.cnd (fun hq => ?_) (fun hq => ?_) <;> (try simp only [q1, q2, q3, q4, q5, q6, q7, q8, q9, q10, q11, q12, q13, q14, q15, q16, q17, q18, q19, q20, q21, q22, q23, q24, q25, q26, q27, q28, q29, q30, Kd.ty] at hq) <;> (try (exfalso; omega)))
  · (with_reducible refine W.cnd (fun hz => ?_) (fun hz => ?_) <;> (try simp only [q1, q2, q3, q4, q5, q6, q7, q8, q9, q10, q11, q12, q13, q14, q15, q16, q17, q18, q19, q20, q21, q22, q23, q24, q25, q26, q27, q28, q29, q30, Kd.ty] at hz) <;> (try (exfalso; omega)))
    · repeat' (with_reducible refine W.ret ?_)
      refine ⟨T, HH, .inr ⟨rfl, vs, q, hS, hI, Vle.refl _, hI.good hr hP' hq hz⟩⟩
    · repeat' (with_reducible (first | refine W.asV ?_ | refine W.ldL (Loc.up (by assumption)) (by with_unfolding_all rfl) ?_))
      obtain ⟨z1, z2, z3⟩ := hr.one hq hz
      have hms := hI.ms
      refine W.to (hf.e2 ..) ?_
      repeat' (with_reducible refine W.bind ?_)
      refine W.mono (set_w hS hn hI.ok hI.len vl (by omega) (hR z z1).1 (by have := hR z z1; omega)) fun r hr2 => ?_
      obtain ⟨b, τ⟩ := r
      obtain ⟨T', H, hr2⟩ := hr2
      dsimp only at H hr2 z1 z2 z3 ⊢
      repeat' (with_reducible (first | refine W.ret ?_ | refine W.asB ?_))
      rcases hr2 with ⟨e, _⟩ | ⟨e, _⟩ | ⟨e, rfl, hS'⟩
      · omega
      · omega
      · obtain ⟨hI', hL⟩ := hI.set (hR z z1).1 (by have := hR z z1; omega) e (hI.unit hcm z1 z3)
        refine ⟨T', H, .inr ⟨rfl, _, _, hS', hI', hL, fun l0 hl0 hk => ?_, fun hk => ?_⟩⟩
        · by_cases e0 : l0 = z
          · subst e0; rw [val_set (hR l0 z1).1 (by rw [hI.len]; have := hR l0 z1; omega), if_pos rfl]
          · have := hP' _ (hk z z1 (fun e => e0 e.symm))
            have := (val_neg1 hI.ok).1 this
            omega
        · have := (val_neg1 hI.ok).1 (hP' _ (hk z z1))
          omega
  · repeat' (with_reducible refine W.ret ?_)
    exact ⟨T, HH, .inl ⟨rfl, hI.confC hcm (hr.bad.1 hq)⟩⟩

/-! ### The loops -/
section
variable {T : Tg} {l vars la lw l7 l10 l1 l12 m : Nat} {cls : Cls} {s : List Int} {f : AVal}
/-- All that the loops go by. -/
structure CL (σ : Heap) (T : Tg) (l vars la lw l7 l10 l1 l12 m : Nat) (cls : Cls) (s vs q : List Int) (f : AVal) (P : Int → Prop) : Prop where
  b : BaseS σ T l vars cls
  st : CS σ T la lw l7 l10 vs q
  n : Tn σ T
  h1 : Loc (σ.at T 0) l1 [.ptr l 0]
  h12 : Loc (σ.at T 13) l12 [f]
  i : Cin vars (lv cls) s vs q P m
theorem BaseS.hop {I : Nat → Bool} {σ τ : Heap} {T T' : Tg} (h : BaseS σ T l vars cls) (H : Hop I σ T τ T') (h0 : ∀ i, (i ≤ 5 ∨ 20 ≤ i) → I i = false := by intro i hi; simp; omega) : BaseS τ T' l vars cls := by
  obtain ⟨⟨vc, vt, lm, vs, many, ps, cv, h1, h2, h3, h4, h5, h6, h7, h8⟩, a, b, c, d, e⟩ := h
  exact ⟨⟨vc, vt, lm, vs, many, ps, cv, h1.hop H (h0 _ (by omega)), h2.hop H (h0 _ (by omega)), h3, h4.hop H (h0 _ (by omega)), h5.hop H (h0 _ (by omega)), h6.hop H (h0 _ (by omega)), h7.hop H fun t ht => h0 _ (.inr ht), h8.hop H (h0 _ (by omega))⟩, a, b, c, d, e⟩

theorem startLoop_w {σ : Heap} {x : AVal} {vs q : List Int} (h : CL σ T l vars la lw l7 l10 l1 l12 m cls s vs q f (fun _ => False)) (hf : SetF f l7 l10) (hx : SlV .int (σ.at T 0) s x) (hm : m ≤ 100000) (hs : ∀ k ∈ s, k ≠ 0 ∧ k.natAbs ≤ vars) (hsl : s.length ≤ 1000000) :
    W (loopW (S.rup_Base_closure.b0 (.ptr l1 0) (.ptr l7 0) (.ptr l10 0) (.ptr l12 0) x (s.length : Int)) 0 σ) fun r => ∃ T', Hop clI σ T r.2 T' ∧ ((r.1 = .inr (.nilp, false) ∧ Conf (lv cls) s) ∨ (r.1 = .inl () ∧ ∃ vs' q', CL r.2 T' l vars la lw l7 l10 l1 l12 m cls s vs' q' f (fun _ => False) ∧ ∀ k ∈ s, val vs' k = 1)) := by
  have hx0 := hx
  refine W.loop s.length (fun i (y : Int) τ => y = (i : Int) ∧ ∃ T' vs' q', Hop clI σ T τ T' ∧ CL τ T' l vars la lw l7 l10 l1 l12 m cls s vs' q' f (fun _ => False) ∧ ∀ k ∈ s.take i, val vs' k = 1) ⟨rfl, T, vs, q, Hop.refl h.n, h, by simp⟩ fun i y τ hi hI => ?_
  obtain ⟨rfl, T', vs', q', H, hC, hk⟩ := hI
  have hx := hx0.hop H
  have h12 := hC.h12
  have hR := hC.b.vl
  unfold S.rup_Base_closure.b0
  (with_reducible refine W.cnd (fun hc => ?_) (fun hc => ?_) <;> (try simp only [q1, q2, q3, q4, q5, q6, q7, q8, q9, q10, q11, q12, q13, q14, q15, q16, q17, q18, q19, q20, q21, q22, q23, q24, q25, q26, q27, q28, q29, q30, Kd.ty] at hc) <;> (try (exfalso; omega)))
  · obtain ⟨a, ha⟩ : ∃ a, s[i]? = some a := ⟨_, List.getElem?_eq_getElem (by omega)⟩
    have hma := List.mem_of_getElem? ha
    repeat' (with_reducible (first | refine W.asV ?_ | refine W.ldL (Loc.up (by assumption)) (by with_unfolding_all rfl) ?_ | refine W.ixIc (SlV.up (by assumption)) (by assumption) ?_))
    refine W.to (hf.e0 ..) ?_
    repeat' (with_reducible refine W.bind ?_)
    have hms := hC.i.ms
    refine W.mono (set_w hC.st hC.n hC.i.ok hC.i.len hR (by omega) (hs a hma).1 (hs a hma).2) fun r hr => ?_
    obtain ⟨b, τ2⟩ := r
    obtain ⟨T2, H2, hr⟩ := hr
    dsimp only at H2 hr ⊢
    have ht : s.take (i + 1) = s.take i ++ [a] := by rw [List.take_add_one, ha]; rfl
    rcases hr with ⟨e, rfl, hS⟩ | ⟨e, rfl⟩ | ⟨e, rfl, hS⟩
    · repeat' (first | (with_reducible (first | refine W.next ?_ | refine W.asB ?_)) | (with_reducible refine W.condF ?_ ?_; focus (first | (simp only [q1, q2, q3, q4, q5, q6, q7, q8, q9, q10, q11, q12, q13, q14, q15, q16, q17, q18, q19, q20, q21, q22, q23, q24, q25, q26, q27, q28, q29, q30, Kd.ty]; done) | (simp only [q1, q2, q3, q4, q5, q6, q7, q8, q9, q10, q11, q12, q13, q14, q15, q16, q17, q18, q19, q20, q21, q22, q23, q24, q25, q26, q27, q28, q29, q30, Kd.ty]; omega) | assumption)))
      refine ⟨by omega, sk, T2, vs', q', H.trans H2, ⟨hC.b.hop H2, hS, H2.tn, hC.h1.hop H2, h12.hop H2, hC.i⟩, fun k hk2 => ?_⟩
      rw [ht] at hk2
      rcases List.mem_append.1 hk2 with h | h
      · exact hk k h
      · rw [List.mem_singleton.1 h]; exact e
    · repeat' (first | (with_reducible (first | refine W.stop ?_ | refine W.asB ?_)) | (with_reducible refine W.condT ?_ ?_; focus (first | (simp only [q1, q2, q3, q4, q5, q6, q7, q8, q9, q10, q11, q12, q13, q14, q15, q16, q17, q18, q19, q20, q21, q22, q23, q24, q25, q26, q27, q28, q29, q30, Kd.ty]; done) | (simp only [q1, q2, q3, q4, q5, q6, q7, q8, q9, q10, q11, q12, q13, q14, q15, q16, q17, q18, q19, q20, q21, q22, q23, q24, q25, q26, q27, q28, q29, q30, Kd.ty]; omega) | assumption)))
      exact ⟨T2, H.trans H2, .inl ⟨rfl, hC.i.conf2 (.start hma) e⟩⟩
    · obtain ⟨hI', hL⟩ := hC.i.set (hs a hma).1 (hs a hma).2 e (.start hma)
      repeat' (first | (with_reducible (first | refine W.next ?_ | refine W.asB ?_)) | (with_reducible refine W.condF ?_ ?_; focus (first | (simp only [q1, q2, q3, q4, q5, q6, q7, q8, q9, q10, q11, q12, q13, q14, q15, q16, q17, q18, q19, q20, q21, q22, q23, q24, q25, q26, q27, q28, q29, q30, Kd.ty]; done) | (simp only [q1, q2, q3, q4, q5, q6, q7, q8, q9, q10, q11, q12, q13, q14, q15, q16, q17, q18, q19, q20, q21, q22, q23, q24, q25, q26, q27, q28, q29, q30, Kd.ty]; omega) | assumption)))
      refine ⟨by omega, sk, T2, _, _, H.trans H2, ⟨hC.b.hop H2, hS, H2.tn, hC.h1.hop H2, h12.hop H2, hI'⟩, fun k hk2 => ?_⟩
      rw [ht] at hk2
      rcases List.mem_append.1 hk2 with h | h
      · exact hL k (hk k h)
      · rw [List.mem_singleton.1 h, val_set (hs a hma).1 (by rw [hC.i.len]; have := (hs a hma).2; omega), if_pos rfl]
  · repeat' (with_reducible refine W.stop ?_)
    rw [List.take_of_length_le (by omega)] at hk
    exact ⟨T', H, .inr ⟨rfl, vs', q', hC, hk⟩⟩

/-- Clauses by their numbers are looked at, one by one. -/
theorem looks_w {σ : Heap} {x : AVal} {vs q : List Int} {p : List Int → Bool} {P P' : Int → Prop} {F : Int → Heap → Option ((Int ⊕ (Unit ⊕ (AVal × Bool))) × Heap)} (h : CL σ T l vars la lw l7 l10 l1 l12 m cls s vs q f P) (hf : SetF f l7 l10) (hm : m ≤ 100000) (hP' : ∀ l, P' l → val vs l = 1)
    (hF : ∀ (i : Nat) τ, F (i : Int) τ = (cond (decide ((i : Int) < ((idsBy cls p).length : Int))) (ixA τ x 1 (i : Int) fun a79 => ld τ a79 (.I .i64) fun n80 => (S.rup_Base_closure_2 n80 (.ptr l7 0) (.ptr l1 0) (.ptr l12 0) τ).bind fun r81 => cond (!r81.1) (some (.inr (.inr (.nilp, false)), r81.2)) (some (.inl (IntKind.i64.wrap ((i : Int) + 1)), r81.2))) (some (.inr (.inl ()), τ))))
    {t : Nat} (ht : t = 0 ∨ t = 5 ∨ 20 ≤ t) (hx : SlV .int (σ.at T t) (idsBy cls p) x) :
    W (loopW F 0 σ) fun r => ∃ T', Hop clI σ T r.2 T' ∧ ((r.1 = .inr (.nilp, false) ∧ Conf (lv cls) s) ∨ (r.1 = .inl () ∧ ∃ vs' q', CL r.2 T' l vars la lw l7 l10 l1 l12 m cls s vs' q' f P ∧ Vle vs vs' ∧ ∀ c ∈ lv cls, p c = true → GP vs' P' c)) := by
  have hx0 := hx
  have hidl := idsBy_len cls p
  have hcl := h.b.cl
  refine W.loop (idsBy cls p).length (fun i (y : Int) τ => y = (i : Int) ∧ ∃ T' vs' q', Hop clI σ T τ T' ∧ CL τ T' l vars la lw l7 l10 l1 l12 m cls s vs' q' f P ∧ Vle vs vs' ∧ ∀ (id : Nat) c, (id : Int) ∈ (idsBy cls p).take i → clAt cls id = some c → GP vs' P' c) ⟨rfl, T, vs, q, Hop.refl h.n, h, Vle.refl _, by simp⟩ fun i y τ hi hI => ?_
  obtain ⟨rfl, T', vs', q', H, hC, hV, hk⟩ := hI
  have hx := hx0.hop H (by simp; omega)
  rw [hF]
  (with_reducible refine W.cnd (fun hc => ?_) (fun hc => ?_) <;> (try simp only [q1, q2, q3, q4, q5, q6, q7, q8, q9, q10, q11, q12, q13, q14, q15, q16, q17, q18, q19, q20, q21, q22, q23, q24, q25, q26, q27, q28, q29, q30, Kd.ty] at hc) <;> (try (exfalso; omega)))
  · obtain ⟨z, hz⟩ : ∃ z, (idsBy cls p)[i]? = some z := ⟨_, List.getElem?_eq_getElem (by omega)⟩
    obtain ⟨id, c, rfl, hc', hpc⟩ := idsBy_mem.1 (List.mem_of_getElem? hz)
    repeat' (with_reducible (first | refine W.bind ?_ | refine W.ixIc (SlV.up (by assumption)) (by assumption) ?_))
    refine W.mono (look_w (P' := P') hC.b hf hC.st hC.n hC.h1 hC.h12 hC.i hm hc' fun l hl => hV l (hP' l hl)) fun r hr => ?_
    obtain ⟨b, τ2⟩ := r
    obtain ⟨T2, H2, hr⟩ := hr
    dsimp only at H2 hr ⊢
    rcases hr with ⟨rfl, hc2⟩ | ⟨rfl, vs2, q2, hS, hI2, hL, hG⟩
    · repeat' (first | (with_reducible refine W.stop ?_) | (with_reducible refine W.condT ?_ ?_; focus (first | (simp only [q1, q2, q3, q4, q5, q6, q7, q8, q9, q10, q11, q12, q13, q14, q15, q16, q17, q18, q19, q20, q21, q22, q23, q24, q25, q26, q27, q28, q29, q30, Kd.ty]; done) | (simp only [q1, q2, q3, q4, q5, q6, q7, q8, q9, q10, q11, q12, q13, q14, q15, q16, q17, q18, q19, q20, q21, q22, q23, q24, q25, q26, q27, q28, q29, q30, Kd.ty]; omega) | assumption)))
      exact ⟨T2, H.trans H2, .inl ⟨rfl, hc2⟩⟩
    · refine W.condF rfl ?_
      repeat' (with_reducible refine W.next ?_)
      refine ⟨by omega, sk, T2, vs2, q2, H.trans H2, ⟨hC.b.hop H2, hS, H2.tn, hC.h1.hop H2, hC.h12.hop H2, hI2⟩, hV.trans hL, fun id2 c2 hid hc2 => ?_⟩
      rw [List.take_add_one, hz] at hid
      rcases List.mem_append.1 hid with h | h
      · exact (hk id2 c2 h hc2).mono hL
      · have e : id2 = id := by simp at h; omega
        subst e
        rw [hc'] at hc2; cases hc2
        exact hG
  · repeat' (with_reducible refine W.stop ?_)
    rw [List.take_of_length_le (by omega)] at hk
    refine ⟨T', H, .inr ⟨rfl, vs', q', hC, hV, fun c hcm hp => ?_⟩⟩
    obtain ⟨id, hid⟩ := lv_mem.1 hcm
    exact hk id c (idsBy_mem.2 ⟨id, c, rfl, hid, hp⟩) hid

/-- The queue is gone through. -/
theorem queue_w {σ : Heap} {vs q : List Int} (h : CL σ T l vars la lw l7 l10 l1 l12 m cls s vs q f (fun _ => False)) (hf : SetF f l7 l10) (hm : m ≤ 100000) (hG : ∀ c ∈ lv cls, GP vs (fun _ => False) c) (hs : ∀ k ∈ s, val vs k = 1) :
    W (loopW (S.rup_Base_closure.b3 (.ptr l1 0) (.ptr l7 0) (.ptr l10 0) (.ptr l12 0)) () σ) fun r => ∃ T', Hop clI σ T r.2 T' ∧ ((r.1 = .inr (.nilp, false) ∧ Conf (lv cls) s) ∨ (r.1 = .inl () ∧ ¬ Conf (lv cls) s ∧ Loc (r.2.at T' 8) l7 [.ptr la 0])) := by
  refine W.loopI (m := m) (fun k (_ : Unit) τ => ∃ T' vs' q' P, Hop clI σ T τ T' ∧ CL τ T' l vars la lw l7 l10 l1 l12 k cls s vs' q' f P ∧ k ≤ m ∧ (∀ c ∈ lv cls, GP vs' P c) ∧ ∀ k ∈ s, val vs' k = 1) ⟨T, vs, q, _, Hop.refl h.n, h, Nat.le_refl _, hG, hs⟩ fun k _ τ hI => ?_
  obtain ⟨T', vs', q', P, H, hC, hkm, hG, hs⟩ := hI
  obtain ⟨hA, hBx, x, hL, hO⟩ := (show _ ∧ _ ∧ _ from ⟨hC.st.asg, hC.st.box, hC.st.left⟩)
  unfold S.rup_Base_closure.b3
  repeat' (with_reducible (first | refine W.asV ?_ | refine W.ldL (Loc.up (by assumption)) (by with_unfolding_all rfl) ?_ | refine W.len (Own.slT (by assumption)) ?_))
  cases q' with
  | nil =>
    refine W.condF (by simp) ?_
    repeat' (with_reducible refine W.stop ?_)
    exact ⟨T', H, .inr ⟨rfl, hC.i.done hG hs, hBx⟩⟩
  | cons a q2 =>
    refine W.condT (by simp) ?_
    repeat' (with_reducible (first | refine W.asV ?_ | refine W.ldL (Loc.up (by assumption)) (by with_unfolding_all rfl) ?_))
    refine W.ixI hO.slT (i := 0) (a := a) rfl (by omega) ?_
    repeat' (with_reducible (first | refine W.asV ?_ | refine W.ldL (Loc.up (by assumption)) (by with_unfolding_all rfl) ?_))
    obtain ⟨x2, e2, hO2⟩ := hO.slice (lo := 1) (hi := (a :: q2).length) (by simp) (Nat.le_refl _)
    rw [List.take_length] at hO2
    have hO2 : Own .int (τ.at T' 10) q2 x2 := hO2
    refine W.to ((e2 at_le _).2 rfl) ?_
    have hn := hC.n
    obtain ⟨h1, h12, hb, hI⟩ := (show _ ∧ _ ∧ _ ∧ _ from ⟨hC.h1, hC.h12, hC.b, hC.i⟩)
    repeat' (with_reducible refine W.scalS (Own.slT (by assumption)) ?_)
    refine W.stT hL hn (Nat.le_of_ble_eq_true (by rfl)) fun τ2 H2 hL hnτ2 => ?_
    replace hA := hA.hop H2
    replace hBx := hBx.hop H2
    replace hO2 := hO2.hop H2
    replace h1 := h1.hop H2
    replace h12 := h12.hop H2
    replace hb := hb.hop H2
    replace hn := H2.tn
    have hva : val vs' a = 1 := hI.qt a (by simp)
    have hI2 : Cin vars (lv cls) s vs' q2 (fun l => P l ∨ l = a) (k - 1) := ⟨hI.ok, hI.len, hI.snd, fun l hl => ?_, fun l hl => hI.qt l (by simp [hl]), fun l hl => hl.elim (hI.pt l) fun e => by rw [e]; exact hva, by have := hI.ms; simp at this; omega⟩
    rotate_left
    · rcases hI.qd l hl with h | h
      · exact .inl (.inl h)
      · rcases List.mem_cons.1 h with h | h
        · exact .inl (.inr h)
        · exact .inr h
    have hb' := hb
    obtain ⟨⟨vc, vt, lm, vs0, many, ps, cv, hl, hvc, hcv, hcx, hvt, hmm, hby, hvs⟩, ok, nm, vl, cl, ll⟩ := hb'
    have hval := val_ok hI.ok a
    repeat' (with_reducible (first | refine W.asV ?_ | refine W.fldp ?_ | refine W.nck ?_ | refine W.ldL (Loc.up (by assumption)) (by with_unfolding_all rfl) ?_ | refine W.mgetT (by assumption) ?_))
    have hw : IntKind.i64.wrap (0 - a) = -a := by
      have : a ≠ 0 ∧ a.natAbs ≤ 4000 := by
        unfold val at hva
        rw [hI.len] at hva
        split at hva
        · cases hva
        · omega
      rw [wrapS] <;> omega
    rw [hw]
    refine W.len (hby (-a)).slT ?_
    have hms := hI.ms
    simp at hms
    refine W.bind ?_
    refine W.mono (looks_w (P := fun l => P l ∨ l = a) (P' := fun l => P l ∨ l = a) (p := hasP (-a)) ⟨hb, ⟨hA, hBx, _, hL, hO2⟩, hn, h1, h12, hI2⟩ hf (by omega) hI2.pt (fun i τ => rfl) (.inr (.inr (tgL_ge (-a)))) (hby (-a)).sl) fun r hr => ?_
    obtain ⟨r, τ3⟩ := r
    obtain ⟨T3, H3, hr⟩ := hr
    dsimp only at H3 hr ⊢
    rcases hr with ⟨rfl, hc⟩ | ⟨rfl, vs3, q3, hC3, hV, hG3⟩
    · repeat' (with_reducible refine W.stop ?_)
      exact ⟨T3, (H.trans (H2.sub fun i hi => by simp at hi ⊢; omega)).trans H3, .inl ⟨rfl, hc⟩⟩
    · repeat' (with_reducible refine W.next ?_)
      refine ⟨k - 1, by omega, T3, vs3, q3, _, (H.trans (H2.sub fun i hi => by simp at hi ⊢; omega)).trans H3, hC3, by omega, fun c hc => ?_, fun j hj => hV j (hs j hj)⟩
      by_cases hca : -a ∈ c
      · exact hG3 c hc (by simp [hasP, hca])
      · have hne : ∀ j ∈ c, -j = a → False := fun j hj e => hca (by rw [← e]; simpa using hj)
        refine ⟨fun l0 hl0 hk => hV l0 ((hG c hc).1 l0 hl0 fun j hj hjn => (hk j hj hjn).resolve_right (hne j hj)), fun hk => (hG c hc).2 fun j hj => (hk j hj).resolve_right (hne j hj)⟩
end
abbrev clJ : Nat → Bool := fun j => decide (6 ≤ j ∧ j ≤ 13)
/-- All that follows of literals: can they be? -/
theorem closure_w {σ : Heap} {T : Tg} {l vars : Nat} {cls : Cls} {s : List Int} {x : AVal} (h : BaseS σ T l vars cls) (hn : Tn σ T) (hx : SlV .int (σ.at T 0) s x) (hs : ∀ k ∈ s, k ≠ 0 ∧ k.natAbs ≤ vars) (hsl : s.length ≤ 1000000) :
    W (S.rup_Base_closure (.ptr l 0) x σ) fun r => (r.1.2 = true ↔ ¬ Conf (lv cls) s) ∧ ∃ T', Hop clJ σ T r.2 T' := by
  have HH : Hop clJ σ T σ T := Hop.refl hn
  have hvl := h.vl
  unfold S.rup_Base_closure
  repeat' (with_reducible refine W.scP ?_)
  refine W.new0 hn fun l1 τ hl1 L h1 _ => ?_
  replace h := h.hle L
  replace hx := hx.hle L
  replace HH := HH.hle L
  replace hn := hn.mono L
  have hb := h
  obtain ⟨⟨vc, vt, lm, vs0, many, ps, cv, hl, hvc, hcv, hcx, hvt, hmm, hby, hvs⟩, ok, nm, vl, cl, ll⟩ := hb
  repeat' (with_reducible (first | refine W.bind ?_ | refine W.asI ?_ | refine W.asV ?_ | refine W.fldp ?_ | refine W.nck ?_ | refine W.ldL (Loc.up (by assumption)) (by with_unfolding_all rfl) ?_))
  refine W.mono (asgNew_w hvl) fun r hr => ?_
  obtain ⟨r, τ2⟩ := r
  obtain ⟨e, hnx, L2, hA⟩ := hr
  dsimp only at e hnx L2 hA ⊢
  subst e
  have H2 : Hop clJ τ T τ2 ((T.upd (τ.next + 1) 6).upd τ.next 7) := hop_tag2 hn L2 (by omega) (by omega) (by omega) (by omega)
  have hA : AsgT τ2 ((T.upd (τ.next + 1) 6).upd τ.next 7) (τ.next + 1) τ.next (List.replicate (vars + 1) 0) := ⟨hA, by rw [upd_ne (by omega)]; exact upd_self, upd_self⟩
  replace h := h.hop H2
  replace hx := hx.hop H2
  replace h1 := h1.hop H2
  replace HH := HH.hop H2
  replace hn := H2.tn
  refine W.newT 8 hn fun l7 τ3 T3 hl7 H3 h7 hnτ3 => ?_
  replace h := h.hop H3
  replace hx := hx.hop H3
  replace h1 := h1.hop H3
  replace HH := HH.hop H3
  replace hA := hA.hop H3
  replace hn := H3.tn
  repeat' (with_reducible refine W.scP ?_)
  refine W.stT h7 hn (Nat.le_of_ble_eq_true (by rfl)) fun τ4 H4 h7 hnτ4 => ?_
  replace h := h.hop H4
  replace hx := hx.hop H4
  replace h1 := h1.hop H4
  replace HH := HH.hop H4
  replace hA := hA.hop H4
  replace hn := H4.tn
  refine W.newT 9 hn fun l10 τ5 T5 hl10 H5 h10 hnτ5 => ?_
  replace h := h.hop H5
  replace hx := hx.hop H5
  replace h1 := h1.hop H5
  replace HH := HH.hop H5
  replace hA := hA.hop H5
  replace h7 := h7.hop H5
  replace hn := H5.tn
  refine W.newT 13 hn fun l12 τ6 T6 hl12 H6 h12 hnτ6 => ?_
  replace h := h.hop H6
  replace hx := hx.hop H6
  replace h1 := h1.hop H6
  replace HH := HH.hop H6
  replace hA := hA.hop H6
  replace h7 := h7.hop H6
  replace h10 := h10.hop H6
  replace hn := H6.tn
  refine W.stT h12 hn (Nat.le_of_ble_eq_true (by rfl)) fun τ7 H7 h12 hnτ7 => ?_
  replace h := h.hop H7
  replace hx := hx.hop H7
  replace h1 := h1.hop H7
  replace HH := HH.hop H7
  replace hA := hA.hop H7
  replace h7 := h7.hop H7
  replace h10 := h10.hop H7
  replace hn := H7.tn
  repeat' (with_reducible (first | refine W.bind ?_ | refine W.len (by assumption) ?_))
  obtain ⟨f, hf, h12⟩ : ∃ f, SetF f l7 l10 ∧ Loc (τ7.at T6 13) l12 [f] := by
    refine ⟨_, ?_, h12⟩
    exact ⟨fun l σ K => rfl, fun l σ K => rfl⟩
  have hz : zeros (List.replicate (vars + 1) 0) ≤ vars + 1 := by
    unfold zeros
    exact Nat.le_trans (List.length_filter_le _ _) (by simp)
  have hv0 : ∀ l, val (List.replicate (vars + 1) 0) l ≠ 1 := fun l => by rw [val_zero]; decide
  have hC : CL τ7 T6 l vars (τ.next + 1) τ.next l7 l10 l1 l12 (vars + 1) cls s (List.replicate (vars + 1) 0) [] _ (fun _ => False) :=
    ⟨h, ⟨hA, h7, .nils, h10, Own.nil⟩, hn, h1, h12, ⟨Vok_zero _, by simp, fun l hl => absurd hl (hv0 l), fun l hl => absurd hl (hv0 l), fun l hl => by simp at hl, fun l hl => hl.elim, by simpa using hz⟩⟩
  refine W.mono (startLoop_w hC hf hx (by omega) hs hsl) fun r hr => ?_
  obtain ⟨r, τ8⟩ := r
  obtain ⟨T8, H8, hr⟩ := hr
  dsimp only at H8 hr ⊢
  replace HH := HH.hop H8
  rcases hr with ⟨rfl, hc⟩ | ⟨rfl, vs8, q8, hC8, hs8⟩
  · repeat' (with_reducible refine W.ret ?_)
    exact ⟨by simp [hc], T8, HH⟩
  obtain ⟨h1', h', hc2⟩ := (show _ ∧ _ ∧ _ from ⟨hC8.h1, hC8.b, hC8.b⟩)
  obtain ⟨⟨vc, vt, lm, vs0, many, ps, cv, hl, hvc, hcv, hcx, hvt, hmm, hby, hvs⟩, ok, nm, vl, cl, ll⟩ := h'
  repeat' (with_reducible (first | refine W.bind ?_ | refine W.asV ?_ | refine W.fldp ?_ | refine W.nck ?_ | refine W.ldL (Loc.up (by assumption)) (by with_unfolding_all rfl) ?_ | refine W.len (Own.slT (by assumption)) ?_))
  refine W.mono (looks_w (P := fun _ => False) (P' := fun _ => False) (p := smallP) hC8 hf (by omega) (fun l hl => hl.elim) (fun i τ => rfl) (.inr (.inl rfl)) hvs.sl) fun r hr => ?_
  obtain ⟨r, τ9⟩ := r
  obtain ⟨T9, H9, hr⟩ := hr
  dsimp only at H9 hr ⊢
  replace HH := HH.hop H9
  rcases hr with ⟨rfl, hc⟩ | ⟨rfl, vs9, q9, hC9, hV9, hG9⟩
  · repeat' (with_reducible refine W.ret ?_)
    exact ⟨by simp [hc], T9, HH⟩
  repeat' (with_reducible refine W.bind ?_)
  refine W.mono (queue_w hC9 hf (by omega) (fun c hc => ?_) fun k hk => hV9 k (hs8 k hk)) fun r hr => ?_
  · by_cases hcs : c.length < 2
    · exact hG9 c hc (by simp [smallP, hcs])
    · have hd : c.Nodup := by rw [← nm c hc]; exact normL_nodup c
      refine ⟨fun l0 hl0 hk => ?_, fun hk => ?_⟩
      · exfalso
        match c, hcs, hd, hk with
        | a :: b :: t, _, hd, hk =>
          have hab : a ≠ b := by have := List.nodup_cons.1 hd; exact fun e => this.1 (by simp [e])
          by_cases e : a = l0
          · exact hk b (by simp) (fun e2 => hab (e.trans e2.symm))
          · exact hk a (by simp) e
        | [], h, _, _ => simp at h
        | [a], h, _, _ => simp at h
      · match c, hcs, hk with
        | a :: t, _, hk => exact hk a (by simp)
        | [], h, _ => simp at h
  obtain ⟨r, τ10⟩ := r
  obtain ⟨T10, H10, hr⟩ := hr
  dsimp only at H10 hr ⊢
  replace HH := HH.hop H10
  rcases hr with ⟨rfl, hc⟩ | ⟨rfl, hc, hB⟩
  · repeat' (with_reducible refine W.ret ?_)
    exact ⟨by simp [hc], T10, HH⟩
  · repeat' (with_reducible (first | refine W.ret ?_ | refine W.asV ?_ | refine W.ldL (Loc.up (by assumption)) (by with_unfolding_all rfl) ?_))
    exact ⟨by simp [hc], T10, HH⟩
end Go.Proofs.YtgneblbblihaoaaGreatDoor.A

/- Does a clause follow? The steps of a proof. -/
namespace Go.Proofs.YtgneblbblihaoaaGreatDoor.A
open Go
theorem Acc.at0 {n0 : Nat} {τ : Heap} {xs : List Int} {y : AVal} {T : Tg} (h : Acc .int n0 τ xs y) (hT : ∀ k, n0 ≤ k → T k = 0) : SlV .int (τ.at T 0) xs y :=
  Fresh.at0 ⟨h.sl, fun l off len c e => (h.loc l off len c e).1⟩ hT
theorem Acc.own {σ τ : Heap} {T : Tg} {xs : List Int} {y : AVal} {I : Nat → Bool} (h : Acc .int σ.next τ xs y) (hn : Tn σ T) (L : Hle σ τ) (t : Nat) : ∃ T', Hop I σ T τ T' ∧ Own .int (τ.at T' t) xs y := by
  rcases h with ⟨rfl, rfl⟩ | ⟨l, cs, rfl, h1, h2, h3, h4, h5⟩
  · exact ⟨T, Hop.of hn L, Own.nil⟩
  · exact ⟨T.upd l t, hop_tag hn L h1 h2, .inr ⟨l, 0, none, cs, rfl, h2, at_of upd_self h3, (fun k e => by cases e), by simpa using h4, fun i a hi => by
      have := h5 i a hi
      rw [Nat.zero_add]; exact this⟩⟩

theorem implied_w {σ : Heap} {T : Tg} {l vars : Nat} {cls : Cls} {c : List Int} {x : AVal} (h : BaseS σ T l vars cls) (hn : Tn σ T) (hx : SlV .int (σ.at T 0) c x) (hcl : c.length ≤ 1000000) :
    W (S.rup_Base_Implied (.ptr l 0) x σ) fun r => r.1 = impl vars (lv cls) c ∧ ∃ T', Hop clJ σ T r.2 T' := by
  have HH : Hop clJ σ T σ T := Hop.refl hn
  obtain ⟨⟨vc, vt, lm, vs0, many, ps, cv, hl, hvc, hcv, hcx, hvt, hmm, hby, hvs⟩, ok, nm, vl, cl, ll⟩ := (show _ ∧ _ ∧ _ ∧ _ ∧ _ ∧ _ from ⟨h.ex, h.ok, h.nm, h.vl, h.cl, h.ll⟩)
  unfold S.rup_Base_Implied
  refine W.call (right_w hl.up vl hx.up (by omega)) fun r hr => ?_
  obtain ⟨b, τ⟩ := r
  obtain ⟨hb, L⟩ := hr
  dsimp only at hb L ⊢
  replace h := h.hle L
  replace hx := hx.hle L
  replace HH := HH.hle L
  replace hn := hn.mono L
  by_cases hR : rightC vars c
  · rw [hb.2 hR]
    refine W.condF rfl ?_
    repeat' (with_reducible refine W.len (by assumption) ?_)
    refine W.mk0 .int (by omega) (by omega) fun y τ2 L2 hA => ?_
    have hx' := hx.up
    have hn0 := hn
    repeat' (with_reducible (first | refine W.bind ?_ | refine W.len (by assumption) ?_))
    refine W.mono (P := fun r => Hle τ r.2 ∧ Acc .int τ.next r.2 (negs c) r.1) ?_ fun r hr => ?_
    · refine W.loop c.length (fun i (y : AVal × Int) τ' => y.2 = (i : Int) ∧ Hle τ τ' ∧ Acc .int τ.next τ' (negs (c.take i)) y.1) ⟨rfl, L2, by simpa using hA⟩ fun i y τ' hi hI => ?_
      obtain ⟨y, j⟩ := y
      obtain ⟨rfl, L3, hA⟩ := hI
      dsimp only at hA ⊢
      unfold S.rup_Base_Implied.b0
      (with_reducible refine W.cnd (fun hc => ?_) (fun hc => ?_) <;> (try simp only [q1, q2, q3, q4, q5, q6, q7, q8, q9, q10, q11, q12, q13, q14, q15, q16, q17, q18, q19, q20, q21, q22, q23, q24, q25, q26, q27, q28, q29, q30, Kd.ty] at hc) <;> (try (exfalso; omega)))
      · obtain ⟨a, ha⟩ : ∃ a, c[i]? = some a := ⟨_, List.getElem?_eq_getElem (by omega)⟩
        have hb2 := hR a (List.mem_of_getElem? ha)
        repeat' (with_reducible refine W.ixIc (SlV.mono (by assumption) (by assumption)) (by assumption) ?_)
        have w : IntKind.i64.wrap (0 - a) = -a := by rw [wrapS] <;> omega
        rw [w]
        refine W.pushI hA L3 (by simp; omega) (by simp; omega) fun y' τ4 L4 hA4 _ => ?_
        repeat' (with_reducible refine W.next ?_)
        refine ⟨by omega, sk, L4, ?_⟩
        have : c.take (i + 1) = c.take i ++ [a] := by rw [List.take_add_one, ha]; rfl
        rw [this]; simpa [negs] using hA4
      · repeat' (with_reducible refine W.stop ?_)
        rw [List.take_of_length_le (by omega)] at hA
        exact ⟨L3, hA⟩
    · obtain ⟨y, τ3⟩ := r
      obtain ⟨L3, hA3⟩ := hr
      dsimp only at L3 hA3 ⊢
      have hy := hA3.at0 fun k hk => hn.z k hk
      replace h := h.hle L3
      replace HH := HH.hle L3
      replace hn := hn.mono L3
      repeat' (with_reducible refine W.bind ?_)
      refine W.mono (closure_w h hn hy (fun k hk => ?_) (by simpa using hcl)) fun r hr => ?_
      · obtain ⟨a, ha, rfl⟩ := List.mem_map.1 hk
        have := hR a ha; omega
      obtain ⟨⟨v, b⟩, τ4⟩ := r
      obtain ⟨hb, T4, H4⟩ := hr
      dsimp only at hb H4 ⊢
      replace HH := HH.hop H4
      repeat' (with_reducible refine W.ret ?_)
      refine ⟨?_, T4, HH⟩
      rw [Bool.eq_iff_iff, impl_iff]
      by_cases hc : Conf (lv cls) (negs c)
      · have : b ≠ true := fun e => hb.1 e hc
        simp [hc, hR, this]
      · have : b = true := hb.2 hc
        simp [hc, this]
  · have : b = false := by
      cases b
      · rfl
      · exact absurd (hb.1 rfl) hR
    subst this
    refine W.condT rfl ?_
    repeat' (with_reducible refine W.ret ?_)
    refine ⟨?_, T, HH⟩
    rw [Bool.eq_iff_iff, impl_iff]
    simp [hR]

theorem without_w {σ : Heap} {T : Tg} {c : List Int} {x : AVal} {p : Int} (hn : Tn σ T) (hx : SlV .int (σ.at T 0) c x) (hcl : c.length ≤ 1000000) :
    W (S.rup_without x p σ) fun r => ∃ T', Hop clJ σ T r.2 T' ∧ SlV .int r.2 (c.filter fun n => !(n == p)) r.1 := by
  have HH : Hop clJ σ T σ T := Hop.refl hn
  unfold S.rup_without
  refine W.new0 hn fun k τ hk L hb _ => ?_
  replace hx := hx.hle L
  replace HH := HH.hle L
  replace hn := hn.mono L
  refine W.call (clone_w hx.up hcl) fun r hr => ?_
  obtain ⟨y, τ2⟩ := r
  obtain ⟨hA, L2⟩ := hr
  dsimp only at hA L2 ⊢
  obtain ⟨T2, H2, hO⟩ := hA.own (I := clJ) hn L2 6
  replace hb := hb.hop H2
  replace HH := HH.hop H2
  replace hn := H2.tn
  refine W.call (deleteFunc_w (fun n => n == p) hn hO (by omega) (fun n hn' Rt K => ?_) (fun τ' H n hn' Rt K => ?_)) fun r hr => ?_
  · have hcell := hb.up.at.cell (k := 0) rfl
    show ((S.rup_without_1 n (.ptr k 0) τ2).bind fun x => K (retV [.B] x) τ2) = _
    unfold S.rup_without_1
    simp only [ld, hcell, asK, if_true, Option.bind_some]
    rfl
  · have hcell := (hb.hop H).up.at.cell (k := 0) rfl
    show ((S.rup_without_1 n (.ptr k 0) τ').bind fun x => K (retV [.B] x) τ') = _
    unfold S.rup_without_1
    simp only [ld, hcell, asK, if_true, Option.bind_some]
    rfl
  · obtain ⟨y, τ3⟩ := r
    obtain ⟨H3, hO⟩ := hr
    dsimp only at H3 hO ⊢
    repeat' (with_reducible refine W.ret ?_)
    exact ⟨T2, HH.hop H3, hO.slT⟩

theorem blocked_w {σ : Heap} {T : Tg} {l vars : Nat} {cls : Cls} {c : List Int} {x : AVal} (h : BaseS σ T l vars cls) (hn : Tn σ T) (hx : SlV .int (σ.at T 0) c x) (hcl : c.length ≤ 400000) (hll : ∀ d ∈ lv cls, d.length ≤ 400000) :
    W (S.rup_Base_Blocked (.ptr l 0) x σ) fun r => r.1 = blocked vars (lv cls) c ∧ ∃ T', Hop clJ σ T r.2 T' := by
  have HH : Hop clJ σ T σ T := Hop.refl hn
  unfold S.rup_Base_Blocked
  refine W.call (implied_w h hn hx (by omega)) fun r hr => ?_
  obtain ⟨b, τ⟩ := r
  obtain ⟨hb, T1, H1⟩ := hr
  dsimp only at hb H1 ⊢
  subst hb
  replace h := h.hop H1
  replace hx := hx.hop H1
  replace HH := HH.hop H1
  replace hn := H1.tn
  (with_reducible refine W.cnd (fun hq => ?_) (fun hq => ?_) <;> (try simp only [q1, q2, q3, q4, q5, q6, q7, q8, q9, q10, q11, q12, q13, q14, q15, q16, q17, q18, q19, q20, q21, q22, q23, q24, q25, q26, q27, q28, q29, q30, Kd.ty] at hq) <;> (try (exfalso; omega)))
  · repeat' (with_reducible refine W.ret ?_)
    exact ⟨by unfold blocked; rw [hq]; rfl, T1, HH⟩
  obtain ⟨⟨vc, vt, lm, vs0, many, ps, cv, hl, hvc, hcv, hcx, hvt, hmm, hby, hvs⟩, ok, nm, vl, cl, ll⟩ := (show _ ∧ _ ∧ _ ∧ _ ∧ _ ∧ _ from ⟨h.ex, h.ok, h.nm, h.vl, h.cl, h.ll⟩)
  repeat' (with_reducible (first | refine W.bind ?_ | refine W.len (by assumption) ?_))
  cases hcc : c with
  | nil =>
    refine W.condT rfl ?_
    repeat' (with_reducible refine W.ret ?_)
    refine W.condT rfl ?_
    repeat' (with_reducible refine W.ret ?_)
    exact ⟨by rw [blocked_nil, ← hcc, hq], T1, HH⟩
  | cons p t =>
    rw [← hcc]
    refine W.condF (by rw [hcc]; simp; omega) ?_
    repeat' (with_reducible refine W.bind ?_)
    refine W.mono (right_w hl.up vl hx.up (by omega)) fun r hr => ?_
    obtain ⟨b, τ2⟩ := r
    obtain ⟨hb, L2⟩ := hr
    dsimp only at hb L2 ⊢
    replace h := h.hle L2
    replace hx := hx.hle L2
    replace HH := HH.hle L2
    replace hl := hl.hle L2
    replace hvc := hvc.hle L2
    replace hcx := hcx.hle L2
    replace hby := hby.hle L2
    replace hmm := hmm.hle L2
    replace hn := hn.mono L2
    repeat' (with_reducible refine W.ret ?_)
    by_cases hR : rightC vars c
    · rw [hb.2 hR]
      refine W.condF rfl ?_
      have hp := hR p (by rw [hcc]; simp)
      repeat' (with_reducible (first | refine W.asV ?_ | refine W.fldp ?_ | refine W.nck ?_ | refine W.ldL (Loc.up (by assumption)) (by with_unfolding_all rfl) ?_))
      refine W.ixI hx.up (i := 0) (a := p) (by rw [hcc]; rfl) (by omega) ?_
      repeat' (with_reducible refine W.mgetT (by assumption) ?_)
      have w : IntKind.i64.wrap (0 - p) = -p := by rw [wrapS] <;> omega
      rw [w]
      dsimp only
      have hby0 : Own .int (τ2.at T1 (tgL (-p))) (idsBy cls (hasP (-p))) ((look ps (-p)).getD .nils) := hby (-p)
      refine W.len hby0.slT ?_
      have hidl := idsBy_len cls (hasP (-p))
      have hx0 := hx
      have h0 := h
      have hl0 := hl
      have hvc0 := hvc
      have hcx0 := hcx
      refine W.bind ?_
      have hbv : blocked vars (lv cls) c = true ↔ ∀ d ∈ lv cls, -p ∈ d → impl vars (lv cls) (c ++ d.filter fun x => !(x == -p)) = true := by
        rw [hcc, blocked_iff, ← hcc, hq]
        simp [hR]
      refine W.loop (idsBy cls (hasP (-p))).length (fun i (y : Int) τ' => y = (i : Int) ∧ ∃ T', Hop clJ σ T τ' T' ∧ Hop clJ τ2 T1 τ' T' ∧ ∀ (id : Nat) d, (id : Int) ∈ (idsBy cls (hasP (-p))).take i → clAt cls id = some d → impl vars (lv cls) (c ++ d.filter fun x => !(x == -p)) = true) ⟨rfl, T1, HH, Hop.refl hn, by simp⟩ fun i y τ' hi hI => ?_
      obtain ⟨rfl, T', HH, H, hk⟩ := hI
      have hx := hx0.hop H
      have hby := hby0.hop H (by have := tgL_ge (-p); simp; omega)
      have h := h0.hop H
      replace hn := H.tn
      replace hl := hl0.hop H
      replace hvc := hvc0.hop H
      replace hcx := hcx0.hop H
      unfold S.rup_Base_Blocked.b0
      (with_reducible refine W.cnd (fun hc => ?_) (fun hc => ?_) <;> (try simp only [q1, q2, q3, q4, q5, q6, q7, q8, q9, q10, q11, q12, q13, q14, q15, q16, q17, q18, q19, q20, q21, q22, q23, q24, q25, q26, q27, q28, q29, q30, Kd.ty] at hc) <;> (try (exfalso; omega)))
      · obtain ⟨z, hz'⟩ : ∃ z, (idsBy cls (hasP (-p)))[i]? = some z := ⟨_, List.getElem?_eq_getElem (by omega)⟩
        obtain ⟨id, d, rfl, hd, hpd⟩ := idsBy_mem.1 (List.mem_of_getElem? hz')
        obtain ⟨y, hy1, hy2⟩ := hcx id d hd
        have hdm : d ∈ lv cls := lv_mem.2 ⟨id, hd⟩
        repeat' (with_reducible (first | refine W.asV ?_ | refine W.fldp ?_ | refine W.nck ?_ | refine W.ldL (Loc.up (by assumption)) (by with_unfolding_all rfl) ?_ | refine W.ixIc (Own.slT (by assumption)) (by assumption) ?_))
        refine W.ixV hvc.slT hy1 ?_
        refine W.ixI hx.up (i := 0) (a := p) (by rw [hcc]; rfl) (by omega) ?_
        rw [w]
        refine W.bind ?_
        refine W.mono (without_w hn hy2 (by have := hll d hdm; omega)) fun r hr => ?_
        obtain ⟨u, τ3⟩ := r
        obtain ⟨T3, H3, hu⟩ := hr
        dsimp only at H3 hu ⊢
        replace hx := hx.hop H3
        replace h := h.hop H3
        replace H := H.hop H3
        replace HH := HH.hop H3
        replace hn := H3.tn
        repeat' (with_reducible refine W.scalS (by assumption) ?_)
        refine W.newg fun k τ4 hk4 L4 hAt hg4 hn4 => ?_
        replace hx := hx.hle L4
        replace h := h.hle L4
        replace H := H.hle L4
        replace HH := HH.hle L4
        replace hn := hn.mono L4
        have hu := hu.mono L4
        have hxu := hx.up
        have hsl : SlV vIs τ4 [c, d.filter fun x => !(x == -p)] (.sl k 0 2 none) := .inr ⟨k, 0, none, .rw, _, rfl, by omega, hg4, Nat.le_of_ble_eq_true rfl, fun i us hi => by
          match i, hi with
          | 0, hi => cases hi; exact ⟨x, rfl, hxu⟩
          | 1, hi => cases hi; exact ⟨u, rfl, hu⟩
          | i + 2, hi => simp at hi⟩
        have hfl : (d.filter fun x => !(x == -p)).length ≤ 400000 := Nat.le_trans (List.length_filter_le ..) (hll d hdm)
        obtain ⟨z, τ5, ez, L5, hz⟩ := concat_eq hsl (by simp; omega) (by simp)
        refine W.eqn ez ?_
        have hz := hz.at0 fun k hk => hn.z k hk
        replace h := h.hle L5
        replace H := H.hle L5
        replace HH := HH.hle L5
        replace hn := hn.mono L5
        repeat' (with_reducible refine W.bind ?_)
        have hflat : ([c, d.filter fun x => !(x == -p)] : List (List Int)).flatten = c ++ d.filter fun x => !(x == -p) := by simp
        rw [hflat] at hz
        refine W.mono (implied_w h hn hz (by rw [List.length_append]; omega)) fun r hr => ?_
        obtain ⟨b, τ6⟩ := r
        obtain ⟨hb, T6, H6⟩ := hr
        dsimp only at hb H6 ⊢
        subst hb
        replace H := H.hop H6
        replace HH := HH.hop H6
        skip
        (with_reducible refine W.cnd (fun hi2 => ?_) (fun hi2 => ?_) <;> (try simp only [q1, q2, q3, q4, q5, q6, q7, q8, q9, q10, q11, q12, q13, q14, q15, q16, q17, q18, q19, q20, q21, q22, q23, q24, q25, q26, q27, q28, q29, q30, Kd.ty] at hi2) <;> (try (exfalso; omega)))
        · repeat' (with_reducible (first | refine W.stop ?_ | refine W.ret ?_))
          refine ⟨?_, T6, HH⟩
          rw [Bool.eq_iff_iff, hbv]
          simp only [Bool.false_eq_true, false_iff]
          intro hall
          have := hall d hdm (by simpa [hasP] using hpd)
          rw [this] at hi2; cases hi2
        · repeat' (with_reducible refine W.next ?_)
          refine ⟨by omega, sk, T6, HH, H, fun id2 d2 hid hd2 => ?_⟩
          rw [List.take_add_one, hz'] at hid
          rcases List.mem_append.1 hid with h | h
          · exact hk id2 d2 h hd2
          · have e : id2 = id := by simp at h; omega
            subst e
            rw [hd] at hd2; cases hd2
            exact hi2
      · repeat' (with_reducible (first | refine W.stop ?_ | refine W.ret ?_))
        rw [List.take_of_length_le (by omega)] at hk
        refine ⟨?_, T', HH⟩
        rw [Bool.eq_iff_iff, hbv]
        simp only [true_iff]
        intro d hd hpd
        obtain ⟨id, hid⟩ := lv_mem.1 hd
        exact hk id d (idsBy_mem.2 ⟨id, d, rfl, hid, by simpa [hasP] using hpd⟩) hid
    · have hb2 : b = false := by
        cases b
        · rfl
        · exact absurd (hb.1 rfl) hR
      subst hb2
      refine W.condT rfl ?_
      repeat' (with_reducible refine W.ret ?_)
      refine ⟨?_, T1, HH⟩
      rw [Bool.eq_iff_iff, hcc, blocked_iff, ← hcc, hq]
      simp [hR]

/-! ### Steps -/
/-- The function that looks at a step. -/
def MayF (bl : Bool) (f : AVal) (l : Nat) : Prop := ∀ {R : Type} (x : AVal) (σ : Heap) (K : AVal → Heap → Option R), callV S.drat_steps.T f [x] σ K = (bif bl then S.rup_Base_Blocked (.ptr l 0) x σ else S.rup_Base_Implied (.ptr l 0) x σ).bind fun r => K (.bool r.1) r.2
theorem may_w {bl : Bool} {σ : Heap} {T : Tg} {l vars : Nat} {cls : Cls} {c : List Int} {x : AVal} (h : BaseS σ T l vars cls) (hn : Tn σ T) (hx : SlV .int (σ.at T 0) c x) (hcl : c.length ≤ 400000) (hll : ∀ d ∈ lv cls, d.length ≤ 400000) :
    W (bif bl then S.rup_Base_Blocked (.ptr l 0) x σ else S.rup_Base_Implied (.ptr l 0) x σ) fun r => r.1 = mayC bl vars (lv cls) c ∧ ∃ T', Hop clJ σ T r.2 T' := by
  cases bl
  · exact implied_w h hn hx (by omega)
  · exact blocked_w h hn hx hcl hll
theorem may_right {bl : Bool} {vars : Int} {D : List (List Int)} {c : List Int} (h : mayC bl vars D c = true) : rightC vars c := by
  cases bl
  · exact (impl_iff.1 h).1
  · have h : blocked vars D c = true := h
    cases c with
    | nil => rw [blocked_nil] at h; exact (impl_iff.1 h).1
    | cons p t =>
      rcases blocked_iff.1 h with h | h
      · exact (impl_iff.1 h).1
      · exact h.1
theorem IsE.hop {I : Nat → Bool} {σ τ : Heap} {T T' : Tg} {v : AVal} {e : Er} {t : Nat} (h : IsE (σ.at T t) v e) (H : Hop I σ T τ T') (hI : I t = false := by rfl) : IsE (τ.at T' t) v e := h.mono (H.le hI)
theorem GlS.hop {I : Nat → Bool} {σ τ : Heap} {T T' : Tg} {E : List Er} {t : Nat} (h : GlS E (σ.at T t)) (H : Hop I σ T τ T') (hI : I t = false := by rfl) : GlS E (τ.at T' t) := h.mono (H.le hI)
theorem GlS.hle {σ τ : Heap} {T : Tg} {E : List Er} {t : Nat} (h : GlS E (σ.at T t)) (L : Hle σ τ) : GlS E (τ.at T t) := h.mono (L.ats T t)
theorem IsF.hop {I : Nat → Bool} {σ τ : Heap} {T T' : Tg} {v : AVal} {e : Flt} {t : Nat} (h : IsF (σ.at T t) v e) (H : Hop I σ T τ T') (hI : I t = false := by rfl) : IsF (τ.at T' t) v e := h.mono (H.le hI)
theorem IsF.up {σ : Heap} {T : Tg} {v : AVal} {e : Flt} {t : Nat} (h : IsF (σ.at T t) v e) : IsF σ v e := h.mono at_le
abbrev stI : Nat → Bool := fun j => decide (1 ≤ j)
theorem stepErr_w {σ : Heap} {T : Tg} (hg : GlS [.proof] (σ.at T 0)) (hn : Tn σ T) (i : Nat) : W (ld σ (.ptr gProof 0) (.V) fun v26 => scal v26 (newK σ 2 [(.int .i64 (i : Int)), v26] fun l27 σ28 => some ((Sum.inr (AVal.ifc tAt (.ptr l27 0)) : Unit ⊕ AVal), σ28))) fun r =>
    ∃ v, r.1 = .inr v ∧ Hle σ r.2 ∧ IsF (r.2.at T 0) v (some (.proof, some (i : Int))) := by
  have hg' : GlS [.proof] σ := hg.mono at_le
  obtain ⟨v, hv⟩ := hg .proof (by decide)
  refine W.glob hg' .proof fun u hu => ?_
  obtain rfl := (hv.mono at_le).inj hu
  refine W.escal hu ?_
  refine W.new0 hn fun l τ _ L h1 hn => ?_
  repeat' (with_reducible refine W.ret ?_)
  exact ⟨_, rfl, L, l, v, rfl, h1.at, hv.mono (L.ats T 0)⟩
theorem steps_w {bl : Bool} {σ : Heap} {T : Tg} {l vars : Nat} {cls : Cls} {ss : List (Bool × List Int)} {x f : AVal} (h : BaseS σ T l vars cls) (hn : Tn σ T) (hx : SlV vB (σ.at T 0) ss x) (hf : MayF bl f l) (hg : GlS [.proof] (σ.at T 0))
    (hR : ∀ s ∈ ss, s.2.length ≤ 400000 ∧ s.2.all inB = true) (hll : ∀ d ∈ lv cls, d.length ≤ 400000) (hsz : cls.length + ss.length ≤ 900000) :
    W (S.drat_steps (.ptr l 0) x f σ) fun r => ∃ T', Hop stI σ T r.2 T' ∧ match runD bl vars 0 (lv cls) ss with
      | .inl k => IsF (r.2.at T' 0) r.1 (some (.proof, some (k : Int)))
      | .inr D => r.1 = .nili ∧ ∃ cls', BaseS r.2 T' l vars cls' ∧ lv cls' = D ∧ (∀ d ∈ lv cls', d.length ≤ 400000) ∧ cls'.length ≤ cls.length + ss.length := by
  have HH : Hop stI σ T σ T := Hop.refl hn
  have hx0 := hx
  have hg0 := hg
  unfold S.drat_steps
  repeat' (with_reducible (first | refine W.bind ?_ | refine W.len (by assumption) ?_))
  refine W.loop ss.length (fun i (y : Int) τ => y = (i : Int) ∧ ∃ T' cls', Hop stI σ T τ T' ∧ BaseS τ T' l vars cls' ∧ (∀ d ∈ lv cls', d.length ≤ 400000) ∧ cls'.length ≤ cls.length + i ∧ runD bl vars 0 (lv cls) ss = runD bl vars i (lv cls') (ss.drop i)) ⟨rfl, T, cls, HH, h, hll, by omega, rfl⟩ fun i y τ hi hI => ?_
  obtain ⟨rfl, T', cls', HH, h, hll, hcl, hrun⟩ := hI
  replace hx := hx0.hop HH
  replace hg := hg0.hop HH
  replace hn := HH.tn
  unfold S.drat_steps.b0
  (with_reducible refine W.cnd (fun hc => ?_) (fun hc => ?_) <;> (try simp only [q1, q2, q3, q4, q5, q6, q7, q8, q9, q10, q11, q12, q13, q14, q15, q16, q17, q18, q19, q20, q21, q22, q23, q24, q25, q26, q27, q28, q29, q30, Kd.ty] at hc) <;> (try (exfalso; omega)))
  · refine W.bind ?_
    refine W.ixL hx at_le (by omega) fun p us s hs hp hr => ?_
    have hms := List.mem_of_getElem? hs
    obtain ⟨y, rfl, hy⟩ := vB_rel hr
    obtain ⟨del, c⟩ := s
    obtain ⟨hcl2, hin⟩ := hR _ hms
    dsimp only at hy hcl2 hin
    rw [drop_at hs] at hrun
    have hp' := hp.mono (at_le (σ := τ) (T := T') (i := 0))
    repeat' (with_reducible refine W.ldGG (by assumption) (by with_unfolding_all rfl) ?_)
    refine W.newT 14 hn fun lb τ2 T2 hlb H2 hb hnτ2 => ?_
    replace hx := hx.hop H2
    replace hg := hg.hop H2
    replace h := h.hop H2
    replace HH := HH.hop H2
    replace hy := hy.hop H2
    replace hn := H2.tn
    repeat' (with_reducible refine W.aggK (by with_unfolding_all rfl) ?_)
    refine W.stT hb hn (Nat.le_of_ble_eq_true (by rfl)) fun τ3 H3 hb hnτ3 => ?_
    replace hx := hx.hop H3
    replace hg := hg.hop H3
    replace h := h.hop H3
    replace HH := HH.hop H3
    replace hy := hy.hop H3
    replace hn := H3.tn
    have hrunc : runD bl vars i (lv cls') ((del, c) :: ss.drop (i + 1)) = bif del then (if normL c ∈ lv cls' then runD bl vars (i + 1) ((lv cls').erase (normL c)) (ss.drop (i + 1)) else .inl i) else
      bif mayC bl vars (lv cls') c then runD bl vars (i + 1) (lv cls' ++ [normL c]) (ss.drop (i + 1)) else .inl i := by rw [runD]
    rw [hrunc] at hrun
    repeat' (with_reducible (first | refine W.bind ?_ | refine W.asB ?_ | refine W.ldL (Loc.up (by assumption)) (by with_unfolding_all rfl) ?_))
    cases del with
    | true =>
      simp only [cond_true] at hrun
      refine W.condT rfl ?_
      repeat' (with_reducible (first | refine W.bind ?_ | refine W.asV ?_ | refine W.ldL (Loc.up (by assumption)) (by with_unfolding_all rfl) ?_))
      refine W.mono (drop_w h hn hy hin (by omega)) fun r hr => ?_
      obtain ⟨b, τ4⟩ := r
      obtain ⟨hbm, T4, cls4, H4, h, hlv4, hlen4⟩ := hr
      dsimp only at hbm H4 h hlv4 ⊢
      replace hx := hx.hop H4
      replace hg := hg.hop H4
      replace HH := HH.hop H4
      replace hb := hb.hop H4
      replace hn := H4.tn
      repeat' (with_reducible refine W.ret ?_)
      by_cases hm : normL c ∈ lv cls'
      · rw [hbm.2 hm]
        refine W.condT rfl ?_
        repeat' (with_reducible (first | refine W.next ?_ | refine W.ret ?_))
        refine ⟨by omega, sk, T4, cls4, HH, h, fun d hd => hll d ?_, by omega, ?_⟩
        · rw [hlv4] at hd; exact List.mem_of_mem_erase hd
        · rw [hrun, if_pos hm, hlv4]
      · have e : b = false := by
          cases b
          · rfl
          · exact absurd (hbm.1 rfl) hm
        subst e
        refine W.condF rfl ?_
        repeat' (with_reducible (first | refine W.bind ?_ | refine W.asB ?_ | refine W.ldL (Loc.up (by assumption)) (by with_unfolding_all rfl) ?_))
        refine W.condT rfl ?_
        repeat' (with_reducible refine W.ret ?_)
        refine W.condT rfl ?_
        refine W.mono (stepErr_w hg hn i) fun r hr => ?_
        obtain ⟨r, τ5⟩ := r
        obtain ⟨v, e, L5, hF⟩ := hr
        dsimp only at e L5 hF ⊢
        subst e
        repeat' (with_reducible (first | refine W.stop ?_ | refine W.ret ?_))
        rw [hrun, if_neg hm]
        exact ⟨T4, HH.hle L5, hF⟩
    | false =>
      simp only [cond_false] at hrun
      refine W.condF rfl ?_
      repeat' (with_reducible refine W.ret ?_)
      refine W.condF rfl ?_
      repeat' (with_reducible (first | refine W.bind ?_ | refine W.asB ?_ | refine W.ldL (Loc.up (by assumption)) (by with_unfolding_all rfl) ?_))
      refine W.condF rfl ?_
      repeat' (with_reducible (first | refine W.asV ?_ | refine W.ldL (Loc.up (by assumption)) (by with_unfolding_all rfl) ?_))
      refine W.to (hf ..) ?_
      repeat' (with_reducible refine W.bind ?_)
      refine W.mono (may_w h hn hy hcl2 hll) fun r hr => ?_
      obtain ⟨b, τ4⟩ := r
      obtain ⟨hbm, T4, H4⟩ := hr
      dsimp only at hbm H4 ⊢
      replace hx := hx.hop H4
      replace hg := hg.hop H4
      replace HH := HH.hop H4
      replace hb := hb.hop H4
      replace h := h.hop H4
      replace hy := hy.hop H4
      replace hn := H4.tn
      repeat' (with_reducible refine W.asB ?_)
      cases hmay : mayC bl vars (lv cls') c with
      | true =>
        rw [hmay] at hbm hrun
        subst hbm
        refine W.condF rfl ?_
        repeat' (with_reducible (first | refine W.bind ?_ | refine W.asV ?_ | refine W.ldL (Loc.up (by assumption)) (by with_unfolding_all rfl) ?_))
        refine W.mono (add_w h hn hy (by omega) (by omega)) fun r hr => ?_
        obtain ⟨b, τ5⟩ := r
        obtain ⟨h1, _, h3⟩ := hr
        dsimp only at h1 h3 ⊢
        have hb1 := h1.2 (may_right hmay)
        subst hb1
        obtain ⟨T5, H5, h⟩ := h3 (may_right hmay)
        repeat' (with_reducible refine W.ret ?_)
        refine W.condF rfl ?_
        repeat' (with_reducible (first | refine W.next ?_ | refine W.ret ?_))
        have hnl := normL_len c
        refine ⟨by omega, sk, T5, _, HH.hop H5, h, fun d hd => ?_, by simp; omega, ?_⟩
        · rw [lv_snoc] at hd
          rcases List.mem_append.1 hd with hd | hd
          · exact hll d hd
          · rw [List.mem_singleton.1 hd]; omega
        · rw [hrun, lv_snoc]; rfl
      | false =>
        rw [hmay] at hbm hrun
        subst hbm
        refine W.condT rfl ?_
        repeat' (with_reducible refine W.ret ?_)
        refine W.condT rfl ?_
        refine W.mono (stepErr_w hg hn i) fun r hr => ?_
        obtain ⟨r, τ5⟩ := r
        obtain ⟨v, e, L5, hF⟩ := hr
        dsimp only at e L5 hF ⊢
        subst e
        repeat' (with_reducible (first | refine W.stop ?_ | refine W.ret ?_))
        rw [hrun]
        exact ⟨T4, HH.hle L5, hF⟩
  · repeat' (with_reducible (first | refine W.stop ?_ | refine W.ret ?_))
    rw [List.drop_eq_nil_of_le (by omega)] at hrun
    rw [hrun]
    exact ⟨T', HH, rfl, cls', h, rfl, hll, by omega⟩
end Go.Proofs.YtgneblbblihaoaaGreatDoor.A

/- Is it a proof?: the program's way. -/
namespace Go.Proofs.YtgneblbblihaoaaGreatDoor.A
open Go
section
variable {n : Int} {c : List Int} {ss : List (Bool × List Int)}
theorem maxV_ge : ∀ {c : List Int} {n : Int}, n ≤ maxV n c ∧ (∀ x ∈ c, (x.natAbs : Int) ≤ maxV n c)
  | [], n => ⟨Int.le_refl _, fun x hx => by cases hx⟩
  | y :: t, n => by
    have e : maxV n (y :: t) = maxV (if (y.natAbs : Int) > n then y.natAbs else n) t := rfl
    obtain ⟨h1, h2⟩ := maxV_ge (c := t) (n := if (y.natAbs : Int) > n then y.natAbs else n)
    rw [e]
    refine ⟨by split at h1 <;> split <;> omega, fun x hx => ?_⟩
    rcases List.mem_cons.1 hx with rfl | hx
    · split at h1 <;> split <;> omega
    · exact h2 x hx
theorem maxV_le {m : Int} : ∀ {c : List Int} {n : Int}, n ≤ m → (∀ x ∈ c, (x.natAbs : Int) ≤ m) → maxV n c ≤ m
  | [], n, h, _ => h
  | y :: t, n, h, k => maxV_le (c := t) (n := if (y.natAbs : Int) > n then y.natAbs else n) (by have := k y (by simp); split <;> omega) fun x hx => k x (by simp [hx])
theorem greatest_ge : ∀ {ss : List (Bool × List Int)} {n : Int}, n ≤ greatest n ss ∧ (∀ s ∈ ss, ∀ x ∈ s.2, (x.natAbs : Int) ≤ greatest n ss)
  | [], n => ⟨Int.le_refl _, fun x hx => by cases hx⟩
  | y :: t, n => by
    have e : greatest n (y :: t) = greatest (maxV n y.2) t := rfl
    obtain ⟨h1, h2⟩ := greatest_ge (ss := t) (n := maxV n y.2)
    obtain ⟨h3, h4⟩ := maxV_ge (c := y.2) (n := n)
    rw [e]
    refine ⟨by omega, fun s hs x hx => ?_⟩
    rcases List.mem_cons.1 hs with rfl | hs
    · have := h4 x hx; omega
    · exact h2 s hs x hx
theorem greatest_le {m : Int} : ∀ {ss : List (Bool × List Int)} {n : Int}, n ≤ m → (∀ s ∈ ss, ∀ x ∈ s.2, (x.natAbs : Int) ≤ m) → greatest n ss ≤ m
  | [], n, h, _ => h
  | y :: t, n, h, k => greatest_le (ss := t) (n := maxV n y.2) (maxV_le h (k y (by simp))) fun s hs => k s (by simp [hs])
theorem maxV_snoc {c : List Int} {n a : Int} : maxV n (c ++ [a]) = if (a.natAbs : Int) > maxV n c then (a.natAbs : Int) else maxV n c := by
  unfold maxV; rw [List.foldl_append]; rfl
theorem greatest_snoc {ss : List (Bool × List Int)} {n : Int} {s : Bool × List Int} : greatest n (ss ++ [s]) = maxV (greatest n ss) s.2 := by
  unfold greatest; rw [List.foldl_append]; rfl
theorem badC_iff {vars : Int} {c : List Int} : badC vars c = false ↔ rightC vars c := by
  unfold badC rightC
  simp [List.any_eq_false, isL_iff]
theorem chkC_none {vars : Int} {cs : List (List Int)} (h : chkC vars cs = none) : 0 ≤ vars ∧ vars ≤ 4000 ∧ cs.length ≤ 20000 ∧ cs.flatten.length ≤ 80000 ∧ ∀ c ∈ cs, rightC vars c := by
  unfold chkC at h
  split at h
  · cases h
  · rename_i hb
    have h : cs.findIdx? (badC vars) = none := by
      cases hf : cs.findIdx? (badC vars) with
      | none => rfl
      | some k => rw [hf] at h; cases h
    rw [List.findIdx?_eq_none_iff] at h
    exact ⟨by omega, by omega, by omega, by omega, fun c hc => badC_iff.1 (by simpa using h c hc)⟩
theorem chkP_none (h : chkP ss = none) : (litsOf ss).flatten.length ≤ 320000 ∧ ∀ s ∈ ss, rightC 4000 s.2 := by
  unfold chkP at h
  split at h
  · cases h
  · rename_i hb
    have h : (litsOf ss).findIdx? (badC 4000) = none := by
      cases hf : (litsOf ss).findIdx? (badC 4000) with
      | none => rfl
      | some k => rw [hf] at h; cases h
    rw [List.findIdx?_eq_none_iff] at h
    exact ⟨by omega, fun s hs => badC_iff.1 (by simpa using h s.2 (List.mem_map_of_mem hs))⟩
theorem litsOf_mem {s : Bool × List Int} (h : s ∈ ss) : s.2.length ≤ (litsOf ss).flatten.length := flat_mem (List.mem_map_of_mem (f := (·.2)) h)
end
/-! ### The check of a proof -/
theorem countP_w {σ : Heap} {ss : List (Bool × List Int)} {x : AVal} (hx : SlV vB σ ss x) (hb : (litsOf ss).flatten.length ≤ 1000000000) (hl : ss.length ≤ 1000000000) :
    W (loopW (S.proof_Check.b0 x (ss.length : Int)) (0, 0) σ) fun r => r.1 = ((litsOf ss).flatten.length : Int) ∧ Hle σ r.2 := by
  have hll : (litsOf ss).length = ss.length := by simp [litsOf]
  refine W.loop ss.length (fun i (y : Int × Int) τ => y = ((((litsOf ss).take i).flatten.length : Int), (i : Int)) ∧ Hle σ τ) ⟨by simp, Hle.refl _⟩ fun i y τ hi hI => ?_
  obtain ⟨rfl, L⟩ := hI
  unfold S.proof_Check.b0
  dsimp only
  (with_reducible refine W.cnd (fun hc => ?_) (fun hc => ?_) <;> (try simp only [q1, q2, q3, q4, q5, q6, q7, q8, q9, q10, q11, q12, q13, q14, q15, q16, q17, q18, q19, q20, q21, q22, q23, q24, q25, q26, q27, q28, q29, q30, Kd.ty] at hc) <;> (try (exfalso; omega)))
  · refine W.ixL hx L (by omega) fun p us s hs hp hr => ?_
    obtain ⟨y, rfl, hy⟩ := vB_rel hr
    have hp' := hp.mono L
    have hy' := hy.mono L
    have hz : (litsOf ss)[i]? = some s.2 := by unfold litsOf; rw [List.getElem?_map, hs]; rfl
    repeat' (with_reducible refine W.ldGG (by assumption) (by with_unfolding_all rfl) ?_)
    refine W.new fun l τ2 hl L2 h2 hnτ2 => ?_
    repeat' (with_reducible refine W.aggK (by with_unfolding_all rfl) ?_)
    refine W.st0 h2 (by rfl) fun τ3 L3 hnτ3 h2 => ?_
    repeat' (with_reducible (first | refine W.next ?_ | refine W.asV ?_ | refine W.len (by assumption) ?_ | refine W.ldL (by assumption) (by with_unfolding_all rfl) ?_))
    have h1 := flat_take_le (litsOf ss) (i + 1)
    rw [take_succ_flat hz, List.length_append] at h1
    have : i < ss.length := by omega
    refine ⟨this, ?_, L.trans (L2.ofk (by omega) L3)⟩
    rw [take_succ_flat hz, List.length_append, sk]
    congr 1
    rw [wrapS] <;> omega
  · repeat' (with_reducible refine W.stop ?_)
    rw [List.take_of_length_le (by omega)]
    exact ⟨rfl, L⟩
theorem rangeP_w {σ0 σ : Heap} {c : List Int} {x p30 : AVal} {k : Nat} {a : Int} (hg : GlS [.range] σ0) (hx : SlV .int σ0 c x) (hl : c.length ≤ 1000000000) (L : Hle σ0 σ) :
    W (loopW (S.proof_Check.b1 (k : Int) p30 a x (c.length : Int)) 0 σ) fun r => Hle σ0 r.2 ∧ bif badC 4000 c then ∃ v, r.1 = .inr v ∧ IsF r.2 v (some (.range, some (k : Int))) else r.1 = .inl () := by
  refine W.loop c.length (fun i (y : Int) τ => y = (i : Int) ∧ Hle σ0 τ ∧ ∀ l ∈ c.take i, isL l 4000 = true) ⟨rfl, L, by simp⟩ fun i y τ hi hI => ?_
  obtain ⟨rfl, L, hI⟩ := hI
  unfold S.proof_Check.b1
  (with_reducible refine W.cnd (fun hc => ?_) (fun hc => ?_) <;> (try simp only [q1, q2, q3, q4, q5, q6, q7, q8, q9, q10, q11, q12, q13, q14, q15, q16, q17, q18, q19, q20, q21, q22, q23, q24, q25, q26, q27, q28, q29, q30, Kd.ty] at hc) <;> (try (exfalso; omega)))
  · obtain ⟨z, hz⟩ : ∃ z, c[i]? = some z := ⟨_, List.getElem?_eq_getElem (by omega)⟩
    have hx' := hx.mono L
    repeat' (with_reducible (first | refine W.bind ?_ | refine W.ixIc (by assumption) (by assumption) ?_))
    refine W.to (litsIs_eq (by omega) (by omega)) ?_
    repeat' (with_reducible refine W.ret ?_)
    (with_reducible refine W.cnd (fun hq => ?_) (fun hq => ?_) <;> (try simp only [q1, q2, q3, q4, q5, q6, q7, q8, q9, q10, q11, q12, q13, q14, q15, q16, q17, q18, q19, q20, q21, q22, q23, q24, q25, q26, q27, q28, q29, q30, Kd.ty] at hq) <;> (try (exfalso; omega)))
    · refine W.glob (hg.mono L) .range fun v hv => ?_
      unfold S.proof_at
      refine W.bind ?_
      refine W.escal hv ?_
      refine W.new fun l τ2 hl L2 h2 hnτ2 => ?_
      repeat' (with_reducible (first | refine W.stop ?_ | refine W.ret ?_))
      have hb : badC 4000 c = true := by
        unfold badC
        rw [List.any_eq_true]
        exact ⟨z, List.mem_of_getElem? hz, by simpa using hq⟩
      rw [hb]
      exact ⟨L.trans L2, _, rfl, l, v, rfl, h2.at, hv.mono L2⟩
    · repeat' (with_reducible refine W.next ?_)
      refine ⟨by omega, sk, L, fun l hl => ?_⟩
      rw [List.take_add_one, hz] at hl
      rcases List.mem_append.1 hl with h | h
      · exact hI l h
      · have : l = z := by simpa using h
        rw [this]; exact hq
  · repeat' (with_reducible refine W.stop ?_)
    rw [List.take_of_length_le (by omega)] at hI
    have hb : badC 4000 c = false := by
      unfold badC
      rw [List.any_eq_false]
      intro l hl
      simp [hI l hl]
    rw [hb]
    exact ⟨L, rfl⟩
theorem proofCheck_w {σ : Heap} {ss : List (Bool × List Int)} {x : AVal} (hg : GlS [.limit, .range] σ) (hx : SlV vB σ ss x) (hb : (litsOf ss).flatten.length ≤ 1000000000) (hl : ss.length ≤ 1000000000) :
    W (S.proof_Check x σ) fun r => IsF r.2 r.1 (chkP ss) ∧ Hle σ r.2 := by
  have hll : (litsOf ss).length = ss.length := by simp [litsOf]
  unfold S.proof_Check
  repeat' (with_reducible (first | refine W.bind ?_ | refine W.len (by assumption) ?_))
  refine W.mono (countP_w hx hb hl) fun r hr => ?_
  obtain ⟨r, τ⟩ := r
  obtain ⟨e, L⟩ := hr
  dsimp only at e L ⊢
  subst e
  (with_reducible refine W.cnd (fun hq => ?_) (fun hq => ?_) <;> (try simp only [q1, q2, q3, q4, q5, q6, q7, q8, q9, q10, q11, q12, q13, q14, q15, q16, q17, q18, q19, q20, q21, q22, q23, q24, q25, q26, q27, q28, q29, q30, Kd.ty] at hq) <;> (try (exfalso; omega)))
  · refine W.glob (hg.mono L) .limit fun v hv => ?_
    repeat' (with_reducible refine W.ret ?_)
    have e : chkP ss = some (.limit, none) := if_pos (by omega)
    rw [e]
    exact ⟨hv, L⟩
  · have e : chkP ss = ((litsOf ss).findIdx? (badC 4000)).map fun k => (.range, some (k : Int)) := if_neg (by omega)
    rw [e]
    repeat' (with_reducible (first | refine W.bind ?_ | refine W.len (by assumption) ?_))
    refine W.loop ss.length (fun i (y : Int) τ => y = (i : Int) ∧ Hle σ τ ∧ ∀ j a, j < i → (litsOf ss)[j]? = some a → badC 4000 a = false) ⟨rfl, L, upto0⟩ fun i y τ' hi hI => ?_
    obtain ⟨rfl, L', hI⟩ := hI
    unfold S.proof_Check.b2
    (with_reducible refine W.cnd (fun hc => ?_) (fun hc => ?_) <;> (try simp only [q1, q2, q3, q4, q5, q6, q7, q8, q9, q10, q11, q12, q13, q14, q15, q16, q17, q18, q19, q20, q21, q22, q23, q24, q25, q26, q27, q28, q29, q30, Kd.ty] at hc) <;> (try (exfalso; omega)))
    · refine W.ixL hx L' (by omega) fun p us s hs hp hr => ?_
      obtain ⟨y, rfl, hy⟩ := vB_rel hr
      have hp' := hp.mono L'
      have hz : (litsOf ss)[i]? = some s.2 := by unfold litsOf; rw [List.getElem?_map, hs]; rfl
      repeat' (with_reducible refine W.ldGG (by assumption) (by with_unfolding_all rfl) ?_)
      refine W.new fun l τ2 hl L2 h2 hnτ2 => ?_
      repeat' (with_reducible refine W.aggK (by with_unfolding_all rfl) ?_)
      refine W.st0 h2 (by rfl) fun τ3 L3 hnτ3 h2 => ?_
      have L3 := L2.ofk (by omega) L3
      repeat' (with_reducible (first | refine W.bind ?_ | refine W.asV ?_ | refine W.len (by assumption) ?_ | refine W.ldL (by assumption) (by with_unfolding_all rfl) ?_))
      refine W.mono (rangeP_w (k := i) (hg.sub (by decide)) hy (by have := litsOf_mem (List.mem_of_getElem? hs); omega) (L'.trans L3)) fun r hr => ?_
      obtain ⟨r, τ4⟩ := r
      obtain ⟨L4, hr⟩ := hr
      dsimp only at L4 hr ⊢
      cases hbad : badC 4000 s.2 with
      | true =>
        rw [hbad] at hr
        obtain ⟨v, rfl, hF⟩ := hr
        repeat' (with_reducible (first | refine W.stop ?_ | refine W.ret ?_))
        rw [findIdx_some (p := badC 4000) (i := i) hI hz hbad]
        exact ⟨hF, L4⟩
      | false =>
        rw [hbad] at hr
        have hr : r = .inl () := hr
        subst hr
        repeat' (with_reducible refine W.next ?_)
        exact ⟨by omega, sk, L4, upto (P := fun _ a => badC 4000 a = false) hI hz hbad⟩
    · repeat' (with_reducible (first | refine W.stop ?_ | refine W.ret ?_))
      rw [findIdx_none (p := badC 4000) (i := i) hI (by omega)]
      exact ⟨rfl, L'⟩
end Go.Proofs.YtgneblbblihaoaaGreatDoor.A

/- Is it a proof?: Refute, Derive, Used. -/
namespace Go.Proofs.YtgneblbblihaoaaGreatDoor.A
open Go
theorem hop_hle {I : Nat → Bool} {σ τ : Heap} {T : Tg} (H : Hop I σ Tz τ T) (h0 : I 0 = false := by rfl) : Hle σ τ := ⟨H.next, fun k o hk hg => H.get k o hk h0 hg⟩
theorem SlV.tz {α : Type} {v : Vw α} {σ τ : Heap} {T : Tg} {I : Nat → Bool} {xs : List α} {x : AVal} (h : SlV v σ xs x) (H : Hop I σ Tz τ T) (hI : I 0 = false := by rfl) : SlV v (τ.at T 0) xs x := by
  have h : SlV v (σ.at Tz 0) xs x := by rw [at_tz]; exact h
  exact h.hop H hI
theorem GlS.tz {σ τ : Heap} {T : Tg} {I : Nat → Bool} {E : List Er} (h : GlS E σ) (H : Hop I σ Tz τ T) (hI : I 0 = false := by rfl) : GlS E (τ.at T 0) := by
  have h : GlS E (σ.at Tz 0) := by rw [at_tz]; exact h
  exact h.hop H hI
theorem greatest_in {vars : Int} {cs : List (List Int)} {ss : List (Bool × List Int)} (hC : chkC vars cs = none) (hP : chkP ss = none) : ((greatest vars ss).toNat : Int) = greatest vars ss ∧ greatest vars ss ≤ 4000 ∧ vars ≤ greatest vars ss ∧ ∀ s ∈ ss, rightC (greatest vars ss) s.2 := by
  obtain ⟨h1, h2, _⟩ := chkC_none hC
  obtain ⟨_, h3⟩ := chkP_none hP
  obtain ⟨h4, h5⟩ := greatest_ge (ss := ss) (n := vars)
  refine ⟨by omega, greatest_le h2 fun s hs x hx => by have := h3 s hs x hx; omega, h4, fun s hs x hx => ?_⟩
  have := h3 s hs x hx
  have := h5 s hs x hx
  omega
theorem great_w {σ0 σ : Heap} {vars : Int} {ss : List (Bool × List Int)} {y p11 : AVal} (hy : SlV vB σ0 ss y) (hs : ∀ s ∈ ss, s.2.length ≤ 1000000000 ∧ ∀ x ∈ s.2, -4000 ≤ x ∧ x ≤ 4000) (hl : ss.length ≤ 1000000000) (L : Hle σ0 σ) :
    W (loopW (S.drat_begin.b1 p11 y (ss.length : Int)) (vars, 0) σ) fun r => r.1 = greatest vars ss ∧ Hle σ0 r.2 := by
  refine W.loop ss.length (fun i (z : Int × Int) τ => z = (greatest vars (ss.take i), (i : Int)) ∧ Hle σ0 τ) ⟨rfl, L⟩ fun i z τ hi hI => ?_
  obtain ⟨rfl, L⟩ := hI
  unfold S.drat_begin.b1
  dsimp only
  (with_reducible refine W.cnd (fun hc => ?_) (fun hc => ?_) <;> (try simp only [q1, q2, q3, q4, q5, q6, q7, q8, q9, q10, q11, q12, q13, q14, q15, q16, q17, q18, q19, q20, q21, q22, q23, q24, q25, q26, q27, q28, q29, q30, Kd.ty] at hc) <;> (try (exfalso; omega)))
  · refine W.ixL hy L (by omega) fun p us s hsi hp hr => ?_
    have hms := List.mem_of_getElem? hsi
    obtain ⟨w, rfl, hw⟩ := vB_rel hr
    obtain ⟨hsl, hsx⟩ := hs s hms
    have hp' := hp.mono L
    have hw' := hw.mono L
    repeat' (with_reducible refine W.ldGG (by assumption) (by with_unfolding_all rfl) ?_)
    refine W.new fun l τ2 hl L2 h2 hnτ2 => ?_
    repeat' (with_reducible refine W.aggK (by with_unfolding_all rfl) ?_)
    refine W.st0 h2 (by rfl) fun τ3 L3 hnτ3 h2 => ?_
    have L3 := L2.ofk (by omega) L3
    replace hw' := hw'.mono L3
    have hnx := L3.next
    repeat' (with_reducible (first | refine W.bind ?_ | refine W.asV ?_ | refine W.len (by assumption) ?_ | refine W.ldL (by assumption) (by with_unfolding_all rfl) ?_))
    refine W.mono (P := fun r => r = maxV (greatest vars (ss.take i)) s.2) ?_ fun r hr => ?_
    · refine W.loopP s.2.length (fun j (z : Int × Int) => z = (maxV (greatest vars (ss.take i)) (s.2.take j), (j : Int))) rfl fun j z hj hI => ?_
      subst hI
      unfold S.drat_begin.b0
      dsimp only
      (with_reducible refine W.cnd (fun hq => ?_) (fun hq => ?_) <;> (try simp only [q1, q2, q3, q4, q5, q6, q7, q8, q9, q10, q11, q12, q13, q14, q15, q16, q17, q18, q19, q20, q21, q22, q23, q24, q25, q26, q27, q28, q29, q30, Kd.ty] at hq) <;> (try (exfalso; omega)))
      · obtain ⟨a, ha⟩ : ∃ a, s.2[j]? = some a := ⟨_, List.getElem?_eq_getElem (by omega)⟩
        have := hsx a (List.mem_of_getElem? ha)
        repeat' (with_reducible (first | refine W.bind ?_ | refine W.ixIc (by assumption) (by assumption) ?_))
        refine W.to (var_eq ⟨by omega, by omega⟩) ?_
        repeat' (with_reducible (first | refine W.nextP ?_ | refine W.ret ?_))
        refine ⟨by omega, ?_⟩
        have ht : s.2.take (j + 1) = s.2.take j ++ [a] := by rw [List.take_add_one, ha]; rfl
        rw [ht, maxV_snoc, sk]
      · repeat' (with_reducible refine W.stopP ?_)
        rw [List.take_of_length_le (l := s.2) (by omega)]
    · subst hr
      repeat' (with_reducible refine W.next ?_)
      have ht : ss.take (i + 1) = ss.take i ++ [s] := by rw [List.take_add_one, hsi]; rfl
      refine ⟨by omega, ?_, L.trans L3⟩
      rw [ht, greatest_snoc, sk]
  · repeat' (with_reducible refine W.stop ?_)
    rw [List.take_of_length_le (by omega)]
    exact ⟨rfl, L⟩

/-- What Refute, Derive, Used begin with. -/
theorem begin_w {σ : Heap} {vars : Int} {cs : List (List Int)} {ss : List (Bool × List Int)} {x y : AVal} (hg : GlS [.limit, .range] σ) (hx : SlV vIs σ cs x) (hy : SlV vB σ ss y) (h1 : cs.flatten.length ≤ 1000000000) (h2 : cs.length ≤ 1000000000) (h3 : (litsOf ss).flatten.length ≤ 1000000000) (h4 : ss.length ≤ 800000) :
    W (S.drat_begin (.agg [.int .i64 vars, x]) y σ) fun r => Hle σ r.2 ∧ match preF vars cs ss with
      | some f => IsF r.2 r.1.2.2 (some f)
      | none => ∃ l T cls, r.1 = (.ptr l 0, greatest vars ss, .nili) ∧ Hop own0 σ Tz r.2 T ∧ BaseS r.2 T l (greatest vars ss).toNat cls ∧ lv cls = cs.map normL ∧ cls.length = cs.length := by
  unfold S.drat_begin
  repeat' (with_reducible refine W.aggK (by with_unfolding_all rfl) ?_)
  refine W.new fun l τ hl L h hnτ => ?_
  replace hg := hg.mono L
  replace hx := hx.mono L
  replace hy := hy.mono L
  have hnx := L.next
  repeat' (with_reducible (first | refine W.bind ?_ | refine W.ldGL (by assumption) (Nat.le_of_ble_eq_true (by with_unfolding_all rfl)) ?_))
  refine W.mono (litsCheck_w hg hx h1 h2) fun r hr => ?_
  obtain ⟨v, τ2⟩ := r
  obtain ⟨hF, L2⟩ := hr
  dsimp only at hF L2 ⊢
  replace hg := hg.mono L2
  replace hx := hx.mono L2
  replace hy := hy.mono L2
  replace h := h.mono L2
  replace L := L.mono L2
  have hnx := L2.next
  refine W.fnil hF ?_
  unfold preF
  cases hC : chkC vars cs with
  | some f =>
    rw [hC] at hF
    repeat' (first | (with_reducible refine W.ret ?_) | (with_reducible refine W.condT ?_ ?_; focus (first | (simp only [q1, q2, q3, q4, q5, q6, q7, q8, q9, q10, q11, q12, q13, q14, q15, q16, q17, q18, q19, q20, q21, q22, q23, q24, q25, q26, q27, q28, q29, q30, Kd.ty]; done) | (simp only [q1, q2, q3, q4, q5, q6, q7, q8, q9, q10, q11, q12, q13, q14, q15, q16, q17, q18, q19, q20, q21, q22, q23, q24, q25, q26, q27, q28, q29, q30, Kd.ty]; omega) | assumption)))
    exact ⟨L, hF⟩
  | none =>
    dsimp only
    refine W.condF rfl ?_
    repeat' (with_reducible refine W.bind ?_)
    refine W.mono (proofCheck_w hg hy h3 (by omega)) fun r hr => ?_
    obtain ⟨v, τ3⟩ := r
    obtain ⟨hF, L3⟩ := hr
    dsimp only at hF L3 ⊢
    replace hg := hg.mono L3
    replace hx := hx.mono L3
    replace hy := hy.mono L3
    replace h := h.mono L3
    replace L := L.mono L3
    have hnx := L3.next
    refine W.fnil hF ?_
    cases hP : chkP ss with
    | some f =>
      rw [hP] at hF
      repeat' (first | (with_reducible refine W.ret ?_) | (with_reducible refine W.condT ?_ ?_; focus (first | (simp only [q1, q2, q3, q4, q5, q6, q7, q8, q9, q10, q11, q12, q13, q14, q15, q16, q17, q18, q19, q20, q21, q22, q23, q24, q25, q26, q27, q28, q29, q30, Kd.ty]; done) | (simp only [q1, q2, q3, q4, q5, q6, q7, q8, q9, q10, q11, q12, q13, q14, q15, q16, q17, q18, q19, q20, q21, q22, q23, q24, q25, q26, q27, q28, q29, q30, Kd.ty]; omega) | assumption)))
      exact ⟨L, hF⟩
    | none =>
      obtain ⟨g1, g2, g3, g4⟩ := greatest_in hC hP
      obtain ⟨c1, c2, c3, c4, c5⟩ := chkC_none hC
      obtain ⟨p1, p2⟩ := chkP_none hP
      dsimp only
      refine W.condF rfl ?_
      repeat' (with_reducible (first | refine W.bind ?_ | refine W.asI ?_ | refine W.len (by assumption) ?_ | refine W.ldL (by assumption) (by with_unfolding_all rfl) ?_))
      refine W.mono (great_w (vars := vars) hy (fun s hs => ⟨by have := litsOf_mem hs; omega, fun x hx => by have := p2 s hs x hx; omega⟩) (by omega) (Hle.refl _)) fun r hr => ?_
      obtain ⟨v, τ4⟩ := r
      obtain ⟨e, L4⟩ := hr
      dsimp only at e L4 ⊢
      subst e
      replace hg := hg.mono L4
      replace hx := hx.mono L4
      replace hy := hy.mono L4
      replace h := h.mono L4
      replace L := L.mono L4
      have hnx := L4.next
      repeat' (with_reducible (first | refine W.bind ?_ | refine W.asV ?_ | refine W.ldL (by assumption) (by with_unfolding_all rfl) ?_))
      rw [← g1]
      refine W.mono (newB_w (T := Tz) Tn.tz (by rw [at_tz]; exact hx) (by omega) (fun c hc k hk => by have := c5 c hc k hk; omega) (by omega) fun c hc => by have := flat_mem hc; omega) fun r hr => ?_
      obtain ⟨v, τ5⟩ := r
      obtain ⟨lb, T5, cls, e, H5, hB, hlv, hlen⟩ := hr
      dsimp only at e H5 hB ⊢
      subst e
      repeat' (with_reducible refine W.ret ?_)
      have H : Hop own0 σ Tz τ5 T5 := (Hop.of Tn.tz L).trans H5
      exact ⟨hop_hle H, lb, T5, cls, by rw [g1], H, hB, hlv, hlen⟩

/-- What is true behind the beginning. -/
structure Began (σ τ : Heap) (T : Tg) (l : Nat) (cls : Cls) (vars : Int) (cs : List (List Int)) (ss : List (Bool × List Int)) : Prop where
  g1 : ((greatest vars ss).toNat : Int) = greatest vars ss
  g2 : greatest vars ss ≤ 4000
  H : Hop own0 σ Tz τ T
  hB : BaseS τ T l (greatest vars ss).toNat cls
  hlv : lv cls = cs.map normL
  hlen : cls.length ≤ 20000
  hll : ∀ d ∈ lv cls, d.length ≤ 400000
  hR : ∀ s ∈ ss, s.2.length ≤ 400000 ∧ s.2.all inB = true
theorem began_w {σ : Heap} {vars : Int} {cs : List (List Int)} {ss : List (Bool × List Int)} {x y : AVal} (hg : GlS [.limit, .range] σ) (hx : SlV vIs σ cs x) (hy : SlV vB σ ss y) (h1 : cs.flatten.length ≤ 1000000000) (h2 : cs.length ≤ 1000000000) (h3 : (litsOf ss).flatten.length ≤ 1000000000) (h4 : ss.length ≤ 800000) :
    W (S.drat_begin (.agg [.int .i64 vars, x]) y σ) fun r => Hle σ r.2 ∧ ((∃ f, preF vars cs ss = some f ∧ IsF r.2 r.1.2.2 (some f)) ∨ (preF vars cs ss = none ∧ ∃ l T cls, r.1 = (.ptr l 0, greatest vars ss, .nili) ∧ Began σ r.2 T l cls vars cs ss)) := by
  refine W.mono (begin_w (vars := vars) hg hx hy h1 h2 h3 h4) fun r hr => ?_
  obtain ⟨r, τ2⟩ := r
  obtain ⟨L2, hr⟩ := hr
  refine ⟨L2, ?_⟩
  cases hp : preF vars cs ss with
  | some f =>
    rw [hp] at hr
    exact .inl ⟨f, rfl, hr⟩
  | none =>
    rw [hp] at hr
    obtain ⟨lb, T, cls, e, H, hB, hlv, hlen⟩ := hr
    obtain ⟨hC, hP⟩ : chkC vars cs = none ∧ chkP ss = none := by
      unfold preF at hp
      cases hC : chkC vars cs with
      | some f => rw [hC] at hp; cases hp
      | none => rw [hC] at hp; exact ⟨rfl, hp⟩
    obtain ⟨g1, g2, g3, g4⟩ := greatest_in hC hP
    obtain ⟨c1, c2, c3, c4, c5⟩ := chkC_none hC
    obtain ⟨p1, p2⟩ := chkP_none hP
    refine .inr ⟨rfl, lb, T, cls, e, g1, g2, H, hB, hlv, by omega, fun d hd => ?_, fun s hs => ⟨by have := litsOf_mem hs; omega, ?_⟩⟩
    · rw [hlv] at hd
      obtain ⟨c, hc, rfl⟩ := List.mem_map.1 hd
      have := flat_mem hc
      have := normL_len c
      omega
    · rw [List.all_eq_true]
      intro x hx
      have := p2 s hs x hx
      simp [inB]; omega

section
variable {σ : Heap} {vars : Int} {cs : List (List Int)} {ss : List (Bool × List Int)} {x y : AVal}
theorem refute_w (hg : GlS [.limit, .range, .proof] σ) (hx : SlV vIs σ cs x) (hy : SlV vB σ ss y) (h1 : cs.flatten.length ≤ 1000000000) (h2 : cs.length ≤ 1000000000) (h3 : (litsOf ss).flatten.length ≤ 1000000000) (h4 : ss.length ≤ 800000) :
    W (S.drat_Refute (.agg [.int .i64 vars, x]) y σ) fun r => Hle σ r.2 ∧ IsF r.2 r.1 (refuteF vars cs ss) := by
  unfold S.drat_Refute
  repeat' (with_reducible refine W.aggK (by with_unfolding_all rfl) ?_)
  refine W.new fun l τ hl L h hnτ => ?_
  replace hg := hg.mono L
  replace hx := hx.mono L
  replace hy := hy.mono L
  have hnx := L.next
  repeat' (with_reducible (first | refine W.bind ?_ | refine W.ldGL (by assumption) (Nat.le_of_ble_eq_true (by with_unfolding_all rfl)) ?_))
  refine W.mono (began_w (vars := vars) (hg.sub (by decide)) hx hy h1 h2 h3 h4) fun r hr => ?_
  obtain ⟨⟨vb, vn, ve⟩, τ2⟩ := r
  obtain ⟨L2, hr⟩ := hr
  dsimp only at L2 hr ⊢
  unfold refuteF
  rcases hr with ⟨f, hp, hr⟩ | ⟨hp, lb, T, cls, e, hG⟩
  · rw [hp]
    dsimp only at hr ⊢
    refine W.fnil hr ?_
    repeat' (first | (with_reducible refine W.ret ?_) | (with_reducible refine W.condT ?_ ?_; focus (first | (simp only [q1, q2, q3, q4, q5, q6, q7, q8, q9, q10, q11, q12, q13, q14, q15, q16, q17, q18, q19, q20, q21, q22, q23, q24, q25, q26, q27, q28, q29, q30, Kd.ty]; done) | (simp only [q1, q2, q3, q4, q5, q6, q7, q8, q9, q10, q11, q12, q13, q14, q15, q16, q17, q18, q19, q20, q21, q22, q23, q24, q25, q26, q27, q28, q29, q30, Kd.ty]; omega) | assumption)))
    exact ⟨L.mono L2, hr⟩
  · rw [hp]
    cases e
    obtain ⟨g1, g2, H, hB, hlv, hlen, hll, hR⟩ := hG
    dsimp only
    refine W.fnil (f := none) (σ := τ2) rfl ?_
    refine W.condF rfl ?_
    repeat' (with_reducible refine W.bind ?_)
    refine W.mono (steps_w (bl := true) hB H.tn (hy.tz H) (fun x σ K => rfl) ((hg.sub (by decide)).tz H) hR hll (by omega)) fun r hr => ?_
    obtain ⟨v, τ3⟩ := r
    obtain ⟨T3, H3, hr⟩ := hr
    dsimp only at H3 hr ⊢
    have HH : Hop stI τ Tz τ3 T3 := (H.sub fun i hi => by simp at hi ⊢; omega).trans H3
    rw [g1, hlv] at hr
    cases hrun : runD true (greatest vars ss) 0 (cs.map normL) ss with
    | inl k =>
      rw [hrun] at hr
      dsimp only at hr ⊢
      refine W.fnil hr.up ?_
      refine W.condT rfl ?_
      repeat' (with_reducible refine W.ret ?_)
      exact ⟨L.mono (hop_hle HH), hr.up⟩
    | inr D =>
      rw [hrun] at hr
      obtain ⟨rfl, cls', hB, hlv', hll', hlen'⟩ := hr
      dsimp only
      refine W.fnil (f := none) (σ := τ3) rfl ?_
      refine W.condF rfl ?_
      repeat' (with_reducible refine W.bind ?_)
      refine W.mono (implied_w hB H3.tn (SlV.nil _ _) (by simp)) fun r hr => ?_
      obtain ⟨b, τ4⟩ := r
      obtain ⟨hb, T4, H4⟩ := hr
      dsimp only at hb H4 ⊢
      rw [hlv', g1] at hb
      subst hb
      have HH4 := HH.hop H4
      (with_reducible refine W.cnd (fun hq => ?_) (fun hq => ?_) <;> (try simp only [q1, q2, q3, q4, q5, q6, q7, q8, q9, q10, q11, q12, q13, q14, q15, q16, q17, q18, q19, q20, q21, q22, q23, q24, q25, q26, q27, q28, q29, q30, Kd.ty] at hq) <;> (try (exfalso; omega)))
      · refine W.glob (hg.mono (hop_hle HH4)) .proof fun u hu => ?_
        repeat' (with_reducible refine W.ret ?_)
        rw [hq]
        exact ⟨L.mono (hop_hle HH4), hu⟩
      · repeat' (with_reducible refine W.ret ?_)
        rw [hq]
        exact ⟨L.mono (hop_hle HH4), rfl⟩

theorem derive_w {goal : List Int} {z : AVal} (hg : GlS [.limit, .range, .proof] σ) (hx : SlV vIs σ cs x) (hy : SlV vB σ ss y) (hz : SlV .int σ goal z) (h1 : cs.flatten.length ≤ 1000000000) (h2 : cs.length ≤ 1000000000) (h3 : (litsOf ss).flatten.length ≤ 1000000000) (h4 : ss.length ≤ 800000) (h5 : goal.length ≤ 1000000) :
    W (S.drat_Derive (.agg [.int .i64 vars, x]) y z σ) fun r => Hle σ r.2 ∧ IsF r.2 r.1 (deriveF vars cs ss goal) := by
  unfold S.drat_Derive
  repeat' (with_reducible refine W.aggK (by with_unfolding_all rfl) ?_)
  refine W.new fun l τ hl L h hnτ => ?_
  replace hg := hg.mono L
  replace hx := hx.mono L
  replace hy := hy.mono L
  replace hz := hz.mono L
  have hnx := L.next
  repeat' (with_reducible (first | refine W.bind ?_ | refine W.ldGL (by assumption) (Nat.le_of_ble_eq_true (by with_unfolding_all rfl)) ?_))
  refine W.mono (began_w (vars := vars) (hg.sub (by decide)) hx hy h1 h2 h3 h4) fun r hr => ?_
  obtain ⟨⟨vb, vn, ve⟩, τ2⟩ := r
  obtain ⟨L2, hr⟩ := hr
  dsimp only at L2 hr ⊢
  unfold deriveF
  rcases hr with ⟨f, hp, hr⟩ | ⟨hp, lb, T, cls, e, hG⟩
  · rw [hp]
    dsimp only at hr ⊢
    refine W.fnil hr ?_
    repeat' (first | (with_reducible refine W.ret ?_) | (with_reducible refine W.condT ?_ ?_; focus (first | (simp only [q1, q2, q3, q4, q5, q6, q7, q8, q9, q10, q11, q12, q13, q14, q15, q16, q17, q18, q19, q20, q21, q22, q23, q24, q25, q26, q27, q28, q29, q30, Kd.ty]; done) | (simp only [q1, q2, q3, q4, q5, q6, q7, q8, q9, q10, q11, q12, q13, q14, q15, q16, q17, q18, q19, q20, q21, q22, q23, q24, q25, q26, q27, q28, q29, q30, Kd.ty]; omega) | assumption)))
    exact ⟨L.mono L2, hr⟩
  · rw [hp]
    cases e
    obtain ⟨g1, g2, H, hB, hlv, hlen, hll, hR⟩ := hG
    dsimp only
    refine W.fnil (f := none) (σ := τ2) rfl ?_
    refine W.condF rfl ?_
    repeat' (with_reducible refine W.bind ?_)
    refine W.mono (steps_w (bl := false) hB H.tn (hy.tz H) (fun x σ K => rfl) ((hg.sub (by decide)).tz H) hR hll (by omega)) fun r hr => ?_
    obtain ⟨v, τ3⟩ := r
    obtain ⟨T3, H3, hr⟩ := hr
    dsimp only at H3 hr ⊢
    have HH : Hop stI τ Tz τ3 T3 := (H.sub fun i hi => by simp at hi ⊢; omega).trans H3
    rw [g1, hlv] at hr
    cases hrun : runD false (greatest vars ss) 0 (cs.map normL) ss with
    | inl k =>
      rw [hrun] at hr
      dsimp only at hr ⊢
      refine W.fnil hr.up ?_
      refine W.condT rfl ?_
      repeat' (with_reducible refine W.ret ?_)
      exact ⟨L.mono (hop_hle HH), hr.up⟩
    | inr D =>
      rw [hrun] at hr
      obtain ⟨rfl, cls', hB, hlv', hll', hlen'⟩ := hr
      dsimp only
      have hz3 := hz.tz HH
      have hz3' := hz3.up
      refine W.fnil (f := none) (σ := τ3) rfl ?_
      refine W.condF rfl ?_
      repeat' (with_reducible (first | refine W.bind ?_ | refine W.len (by assumption) ?_))
      refine W.mono (P := fun r => (rightC (greatest vars ss) goal ∧ r = .inl ()) ∨ (¬ rightC (greatest vars ss) goal ∧ ∃ u, r = .inr u ∧ IsE τ3 u .range)) ?_ fun r hr => ?_
      · refine W.loopP goal.length (fun i y => y = (i : Int) ∧ rightC (greatest vars ss) (goal.take i)) ⟨rfl, by simp [rightC]⟩ fun i y hi hI => ?_
        obtain ⟨rfl, hI⟩ := hI
        unfold S.drat_Derive.b0
        (with_reducible refine W.cnd (fun hc => ?_) (fun hc => ?_) <;> (try simp only [q1, q2, q3, q4, q5, q6, q7, q8, q9, q10, q11, q12, q13, q14, q15, q16, q17, q18, q19, q20, q21, q22, q23, q24, q25, q26, q27, q28, q29, q30, Kd.ty] at hc) <;> (try (exfalso; omega)))
        · obtain ⟨a, ha⟩ : ∃ a, goal[i]? = some a := ⟨_, List.getElem?_eq_getElem (by omega)⟩
          repeat' (with_reducible (first | refine W.bind ?_ | refine W.ixIc (by assumption) (by assumption) ?_))
          refine W.to (litsIs_eq (by omega) (by omega)) ?_
          repeat' (with_reducible refine W.ret ?_)
          (with_reducible refine W.cnd (fun hq => ?_) (fun hq => ?_) <;> (try simp only [q1, q2, q3, q4, q5, q6, q7, q8, q9, q10, q11, q12, q13, q14, q15, q16, q17, q18, q19, q20, q21, q22, q23, q24, q25, q26, q27, q28, q29, q30, Kd.ty] at hq) <;> (try (exfalso; omega)))
          · refine W.glob (hg.mono (hop_hle HH)) .range fun u hu => ?_
            repeat' (with_reducible refine W.stopP ?_)
            refine .inr ⟨fun hR => ?_, u, rfl, hu⟩
            have := isL_iff.2 (hR a (List.mem_of_getElem? ha))
            rw [this] at hq; cases hq
          · repeat' (with_reducible refine W.nextP ?_)
            refine ⟨by omega, sk, fun k hk => ?_⟩
            rw [List.take_add_one, ha] at hk
            rcases List.mem_append.1 hk with hk | hk
            · exact hI k hk
            · have e : k = a := by simpa using hk
              rw [e]; exact isL_iff.1 hq
        · repeat' (with_reducible refine W.stopP ?_)
          rw [List.take_of_length_le (by omega)] at hI
          exact .inl ⟨hI, rfl⟩
      · rcases hr with ⟨hR', rfl⟩ | ⟨hR', u, rfl, hu⟩
        · rw [if_pos hR']
          repeat' (with_reducible refine W.bind ?_)
          refine W.mono (implied_w hB H3.tn hz3 (by omega)) fun r hr => ?_
          obtain ⟨b, τ4⟩ := r
          obtain ⟨hb, T4, H4⟩ := hr
          dsimp only at hb H4 ⊢
          rw [hlv', g1] at hb
          subst hb
          have HH4 := HH.hop H4
          (with_reducible refine W.cnd (fun hq => ?_) (fun hq => ?_) <;> (try simp only [q1, q2, q3, q4, q5, q6, q7, q8, q9, q10, q11, q12, q13, q14, q15, q16, q17, q18, q19, q20, q21, q22, q23, q24, q25, q26, q27, q28, q29, q30, Kd.ty] at hq) <;> (try (exfalso; omega)))
          · refine W.glob (hg.mono (hop_hle HH4)) .proof fun u hu => ?_
            repeat' (with_reducible refine W.ret ?_)
            rw [hq]
            exact ⟨L.mono (hop_hle HH4), hu⟩
          · repeat' (with_reducible refine W.ret ?_)
            rw [hq]
            exact ⟨L.mono (hop_hle HH4), rfl⟩
        · rw [if_neg hR']
          repeat' (with_reducible refine W.ret ?_)
          exact ⟨L.mono (hop_hle HH), hu⟩

/-- How many first steps are enough. -/
noncomputable def usedK (vars : Int) : Nat → List (List Int) → List (Bool × List Int) → Nat
  | k, _, [] => k
  | k, D, s :: t => bif impl vars D [] then k else match runD true vars 0 D [s] with
    | .inl _ => 0
    | .inr D' => usedK vars (k + 1) D' t
noncomputable def usedF (vars : Int) (cs : List (List Int)) (ss : List (Bool × List Int)) : Nat × Flt := match refuteF vars cs ss with
  | some f => (0, some f)
  | none => (usedK (greatest vars ss) 0 (cs.map normL) ss, none)
theorem runD_cons {bl : Bool} {vars : Int} : ∀ {ss : List (Bool × List Int)} {k : Nat} {D : List (List Int)} {s : Bool × List Int} {D' : List (List Int)}, runD bl vars k D (s :: ss) = .inr D' → ∃ E, runD bl vars 0 D [s] = .inr E ∧ runD bl vars (k + 1) E ss = .inr D'
  | ss, k, D, (true, c), D', h => by
    rw [runD] at h ⊢
    simp only [cond_true] at h ⊢
    split at h
    · rename_i hm; rw [if_pos hm]; exact ⟨_, by rw [runD], h⟩
    · cases h
  | ss, k, D, (false, c), D', h => by
    rw [runD] at h ⊢
    simp only [cond_false] at h ⊢
    cases hm : mayC bl vars D c with
    | true => rw [hm] at h; exact ⟨_, by simp only [cond_true]; rw [runD], h⟩
    | false => rw [hm] at h; cases h
theorem used_w (hg : GlS [.limit, .range, .proof] σ) (hx : SlV vIs σ cs x) (hy : SlV vB σ ss y) (h1 : cs.flatten.length ≤ 1000000000) (h2 : cs.length ≤ 1000000000) (h3 : (litsOf ss).flatten.length ≤ 1000000000) (h4 : ss.length ≤ 800000) :
    W (S.drat_Used (.agg [.int .i64 vars, x]) y σ) fun r => Hle σ r.2 ∧ r.1.1 = ((usedF vars cs ss).1 : Int) ∧ IsF r.2 r.1.2 (usedF vars cs ss).2 := by
  unfold S.drat_Used
  repeat' (with_reducible refine W.aggK (by with_unfolding_all rfl) ?_)
  refine W.new fun l τ hl L h hnτ => ?_
  replace hg := hg.mono L
  replace hx := hx.mono L
  replace hy := hy.mono L
  have hnx := L.next
  repeat' (with_reducible (first | refine W.bind ?_ | refine W.ldGL (by assumption) (Nat.le_of_ble_eq_true (by with_unfolding_all rfl)) ?_))
  refine W.mono (refute_w (vars := vars) hg hx hy h1 h2 h3 h4) fun r hr => ?_
  obtain ⟨ve, τ2⟩ := r
  obtain ⟨L2, hF⟩ := hr
  dsimp only at L2 hF ⊢
  replace hg := hg.mono L2
  replace hx := hx.mono L2
  replace hy := hy.mono L2
  replace h := h.mono L2
  replace L := L.mono L2
  have hnx := L2.next
  refine W.fnil hF ?_
  unfold usedF
  cases hrf : refuteF vars cs ss with
  | some f =>
    rw [hrf] at hF
    repeat' (first | (with_reducible refine W.ret ?_) | (with_reducible refine W.condT ?_ ?_; focus (first | (simp only [q1, q2, q3, q4, q5, q6, q7, q8, q9, q10, q11, q12, q13, q14, q15, q16, q17, q18, q19, q20, q21, q22, q23, q24, q25, q26, q27, q28, q29, q30, Kd.ty]; done) | (simp only [q1, q2, q3, q4, q5, q6, q7, q8, q9, q10, q11, q12, q13, q14, q15, q16, q17, q18, q19, q20, q21, q22, q23, q24, q25, q26, q27, q28, q29, q30, Kd.ty]; omega) | assumption)))
    exact ⟨L, rfl, hF⟩
  | none =>
    dsimp only
    refine W.condF rfl ?_
    repeat' (with_reducible (first | refine W.bind ?_ | refine W.ldGL (by assumption) (Nat.le_of_ble_eq_true (by with_unfolding_all rfl)) ?_))
    refine W.mono (began_w (vars := vars) (hg.sub (by decide)) hx hy h1 h2 h3 h4) fun r hr => ?_
    obtain ⟨⟨vb, vn, ve⟩, τ3⟩ := r
    obtain ⟨L3, hr⟩ := hr
    dsimp only at L3 hr ⊢
    unfold refuteF at hrf
    rcases hr with ⟨f, hp, hr⟩ | ⟨hp, lb, T, cls, e, hG⟩
    · rw [hp] at hrf; cases hrf
    rw [hp] at hrf
    dsimp only at hrf
    obtain ⟨Dn, hrun⟩ : ∃ D, runD true (greatest vars ss) 0 (cs.map normL) ss = .inr D := by
      cases hrun : runD true (greatest vars ss) 0 (cs.map normL) ss with
      | inl k => rw [hrun] at hrf; cases hrf
      | inr D => exact ⟨D, rfl⟩
    cases e
    obtain ⟨g1, g2, H, hB, hlv, hlen, hll, hR⟩ := hG
    refine W.fnil (f := none) (σ := τ3) rfl ?_
    refine W.condF rfl ?_
    have hy0 := hy
    have hg0 := hg
    repeat' (with_reducible (first | refine W.bind ?_ | refine W.len (by assumption) ?_))
    have HH : Hop stI τ2 Tz τ3 T := H.sub fun i hi => by simp at hi ⊢; omega
    refine W.loop ss.length (fun i (z : Int) τ' => z = (i : Int) ∧ ∃ T' cls', Hop stI τ2 Tz τ' T' ∧ BaseS τ' T' lb (greatest vars ss).toNat cls' ∧ (∀ d ∈ lv cls', d.length ≤ 400000) ∧ cls'.length ≤ cls.length + i ∧ (∃ k, runD true (greatest vars ss) k (lv cls') (ss.drop i) = .inr Dn) ∧ usedK (greatest vars ss) 0 (cs.map normL) ss = usedK (greatest vars ss) i (lv cls') (ss.drop i)) ⟨rfl, T, cls, HH, hB, hll, by omega, ⟨0, by rw [hlv]; exact hrun⟩, by rw [hlv]; rfl⟩ fun i z τ' hi hI => ?_
    obtain ⟨rfl, T', cls', HH, hB, hll, hlen2, ⟨k, hrun⟩, hus⟩ := hI
    have hy := hy0.tz HH
    unfold S.drat_Used.b0
    (with_reducible refine W.cnd (fun hc => ?_) (fun hc => ?_) <;> (try simp only [q1, q2, q3, q4, q5, q6, q7, q8, q9, q10, q11, q12, q13, q14, q15, q16, q17, q18, q19, q20, q21, q22, q23, q24, q25, q26, q27, q28, q29, q30, Kd.ty] at hc) <;> (try (exfalso; omega)))
    · obtain ⟨s, hs⟩ : ∃ s, ss[i]? = some s := ⟨_, List.getElem?_eq_getElem (by omega)⟩
      rw [drop_at hs] at hrun hus
      rw [usedK] at hus
      obtain ⟨E, hE1, hE2⟩ := runD_cons hrun
      rw [hE1] at hus
      refine W.bind ?_
      refine W.mono (implied_w hB HH.tn (SlV.nil _ _) (by simp)) fun r hr => ?_
      obtain ⟨b, τ4⟩ := r
      obtain ⟨hb, T4, H4⟩ := hr
      dsimp only at hb H4 ⊢
      rw [g1] at hb
      subst hb
      replace HH := HH.hop H4
      replace hB := hB.hop H4
      replace hy := hy0.tz HH
      (with_reducible refine W.cnd (fun hq => ?_) (fun hq => ?_) <;> (try simp only [q1, q2, q3, q4, q5, q6, q7, q8, q9, q10, q11, q12, q13, q14, q15, q16, q17, q18, q19, q20, q21, q22, q23, q24, q25, q26, q27, q28, q29, q30, Kd.ty] at hq) <;> (try (exfalso; omega)))
      · repeat' (with_reducible (first | refine W.stop ?_ | refine W.ret ?_))
        rw [hq] at hus
        exact ⟨L.mono (hop_hle HH), by rw [hus]; rfl, rfl⟩
      · rw [hq] at hus
        rw [sk]
        obtain ⟨y', ey, hy'⟩ : ∃ y', (∀ {R : Type} (K : AVal → Option R), slS τ4 2 y (i : Int) (some ((i + 1 : Nat) : Int)) none K = K y') ∧ SlV vB (τ4.at T4 0) [s] y' := by
          obtain ⟨y', e1, h2⟩ := hy.slice (lo := i) (hi := i + 1) (by omega) (by omega)
          refine ⟨y', fun K => (e1 at_le K).1, ?_⟩
          have e : (ss.take (i + 1)).drop i = [s] := by
            rw [List.take_add_one, hs, List.drop_append, List.drop_eq_nil_of_le (by simp; omega)]
            simp
            have : i - min i ss.length = 0 := by omega
            rw [this]; rfl
          rw [← e]; exact h2
        refine W.to (ey _) ?_
        repeat' (with_reducible refine W.bind ?_)
        refine W.mono (steps_w (bl := true) hB HH.tn hy' (fun x σ K => rfl) ((hg0.sub (by decide)).tz HH) (fun s' hs' => by
          have : s' = s := by simpa using hs'
          rw [this]; exact hR s (List.mem_of_getElem? hs)) hll (by simp; omega)) fun r hr => ?_
        obtain ⟨v, τ5⟩ := r
        obtain ⟨T5, H5, hr⟩ := hr
        dsimp only at H5 hr ⊢
        rw [g1, hE1] at hr
        obtain ⟨rfl, cls5, hB, hlv5, hll5, hlen5⟩ := hr
        refine W.fnil (f := none) (σ := τ5) rfl ?_
        refine W.condF rfl ?_
        repeat' (with_reducible refine W.next ?_)
        exact ⟨by omega, rfl, T5, cls5, HH.trans H5, hB, hll5, by simp at hlen5; omega, ⟨k + 1, by rw [hlv5]; exact hE2⟩, by rw [hlv5, hus]; rfl⟩
    · repeat' (with_reducible (first | refine W.stop ?_ | refine W.ret ?_ | refine W.len (by assumption) ?_))
      rw [List.drop_eq_nil_of_le (by omega), usedK] at hus
      refine ⟨L.mono (hop_hle HH), ?_, rfl⟩
      rw [hus]
      have : i = ss.length := by omega
      rw [this]
end
end Go.Proofs.YtgneblbblihaoaaGreatDoor.A

/- Clauses and formulas out of numbers. -/
namespace Go.Proofs.YtgneblbblihaoaaGreatDoor.A
open Go
theorem number_eq {σ : Heap} {n b : Int} (hb : 0 < b) (hb2 : b ≤ 4611686018427387904) : S.skolemworld_Number n b σ = some (n % b) := by
  unfold S.skolemworld_Number
  rw [if_neg (by omega)]
  have h0 := Int.emod_nonneg n (show b ≠ 0 by omega)
  have h1 := Int.emod_lt_of_pos n hb
  rcases (show n < 0 ∨ 0 ≤ n by omega) with hn | hn
  · have e : Int.tmod n b = if n % b = 0 then 0 else n % b - b := by
      rw [Int.tmod_eq_emod]
      split
      · rename_i h
        rcases h with h | h
        · omega
        · have := Int.emod_eq_zero_of_dvd h; rw [if_pos this]; omega
      · rename_i h
        have : n % b ≠ 0 := fun e => h (.inr (Int.dvd_of_emod_eq_zero e))
        rw [if_neg this]; omega
    rw [e]
    by_cases hz : n % b = 0
    · rw [if_pos hz, hz]; rfl
    · rw [if_neg hz]
      have : decide (n % b - b < 0) = true := by simp; omega
      rw [this]
      have w : IntKind.i64.wrap (n % b - b + b) = n % b := by rw [wrapS] <;> omega
      rw [w]; rfl
  · have e : Int.tmod n b = n % b := Int.tmod_eq_emod_of_nonneg hn
    rw [e]
    have : decide (n % b < 0) = false := by simp; omega
    rw [this]; rfl

def lit (n vars : Int) : Int := if n % (2 * vars) < vars then n % (2 * vars) + 1 else vars - n % (2 * vars) - 1
theorem lit_ok {n vars : Int} (h : 0 < vars) : lit n vars ≠ 0 ∧ -vars ≤ lit n vars ∧ lit n vars ≤ vars := by
  unfold lit
  have h0 := Int.emod_nonneg n (show 2 * vars ≠ 0 by omega)
  have h1 := Int.emod_lt_of_pos n (show 0 < 2 * vars by omega)
  split <;> omega
theorem lit_eq {σ : Heap} {n vars : Int} (h : 0 < vars) (h2 : vars ≤ 1000000) : S.skolemmake_Lit n vars σ = some (lit n vars) := by
  unfold S.skolemmake_Lit lit
  have w : IntKind.i64.wrap (2 * vars) = 2 * vars := by rw [wrapS] <;> omega
  have h0 := Int.emod_nonneg n (show 2 * vars ≠ 0 by omega)
  have h1 := Int.emod_lt_of_pos n (show 0 < 2 * vars by omega)
  rw [w, number_eq (by omega) (by omega)]
  simp only [Option.bind_some]
  by_cases hl : n % (2 * vars) < vars
  · simp only [hl, decide_true, cond_true, if_true]
    rw [wrapS] <;> omega
  · simp only [hl, decide_false, cond_false, if_false]
    have w1 : IntKind.i64.wrap (vars - n % (2 * vars)) = vars - n % (2 * vars) := by rw [wrapS] <;> omega
    rw [w1, wrapS] <;> omega

/-- Clauses out of numbers. -/
def stepC (vars : Int) (s : List (List Int) × List Int) (n : Int) : List (List Int) × List Int :=
  let t := if (n % 7 = 0 ∧ s.2.length > 0) ∨ s.2.length ≥ 5 then (s.1 ++ [s.2], []) else s
  (t.1, t.2 ++ [lit (n % 1099511627776 / 7) vars])
def endC (s : List (List Int) × List Int) : List (List Int) := if s.2.length > 0 then s.1 ++ [s.2] else s.1
def clausesOf (l : List Int) (vars : Int) : List (List Int) := if vars < 1 then [] else endC (l.foldl (stepC vars) ([], []))

theorem len_flat : ∀ {cs : List (List Int)}, (∀ c ∈ cs, c ≠ []) → cs.length ≤ cs.flatten.length
  | [], _ => by simp
  | c :: cs, h => by
    have h1 := len_flat (cs := cs) fun d hd => h d (List.mem_cons_of_mem _ hd)
    have h2 : c.length ≠ 0 := fun e => h c (by simp) (List.eq_nil_of_length_eq_zero e)
    simp only [List.flatten_cons, List.length_append, List.length_cons]; omega
structure CI (vars : Int) (k : Nat) (s : List (List Int) × List Int) : Prop where
  ok : ∀ c ∈ s.1, c ≠ [] ∧ c.length ≤ 5 ∧ ∀ l ∈ c, l ≠ 0 ∧ -vars ≤ l ∧ l ≤ vars
  ok2 : s.2.length ≤ 5 ∧ ∀ l ∈ s.2, l ≠ 0 ∧ -vars ≤ l ∧ l ≤ vars
  len : s.1.flatten.length + s.2.length = k
theorem CI.len2 {vars : Int} {k : Nat} {s : List (List Int) × List Int} (h : CI vars k s) : s.1.length + s.2.length ≤ k := by
  have := len_flat fun c hc => (h.ok c hc).1
  have := h.len; omega
theorem stepC_ok {vars : Int} (hv : 0 < vars) {k : Nat} {s : List (List Int) × List Int} (h : CI vars k s) (n : Int) : CI vars (k + 1) (stepC vars s n) := by
  obtain ⟨h1, h2, h3⟩ := h
  unfold stepC
  have hl := lit_ok (n := n % 1099511627776 / 7) hv
  by_cases hc : (n % 7 = 0 ∧ s.2.length > 0) ∨ s.2.length ≥ 5
  · rw [if_pos hc]
    have hp : 0 < s.2.length := by rcases hc with ⟨_, h⟩ | h <;> omega
    refine ⟨fun c hc => ?_, ⟨by simp, fun l hl' => ?_⟩, ?_⟩
    · rcases List.mem_append.1 hc with hc | hc
      · exact h1 c hc
      · simp at hc; subst hc
        exact ⟨fun e => by rw [e] at hp; simp at hp, h2⟩
    · simp at hl'; subst hl'; exact hl
    · simp only [List.flatten_append, List.length_append, List.flatten_cons, List.flatten_nil, List.append_nil, List.nil_append, List.length_singleton, List.length_nil]; omega
  · rw [if_neg hc]
    refine ⟨h1, ⟨?_, fun l hl' => ?_⟩, ?_⟩
    · simp only [List.length_append, List.length_singleton]; omega
    · rcases List.mem_append.1 hl' with hl' | hl'
      · exact h2.2 l hl'
      · simp at hl'; subst hl'; exact hl
    · simp only [List.flatten_append, List.length_append, List.flatten_cons, List.flatten_nil, List.append_nil, List.nil_append, List.length_singleton, List.length_nil]; omega
theorem foldC_ok {vars : Int} (hv : 0 < vars) : ∀ (l : List Int) (k : Nat) (s : List (List Int) × List Int), CI vars k s → CI vars (k + l.length) (l.foldl (stepC vars) s)
  | [], k, s, h => h
  | n :: l, k, s, h => by
    have := foldC_ok hv l (k + 1) _ (stepC_ok hv h n)
    rw [List.length_cons, show k + (l.length + 1) = k + 1 + l.length by omega]
    exact this
theorem CI0 (vars : Int) : CI vars 0 ([], []) := ⟨fun c h => (by cases h), ⟨by simp, fun l h => (by cases h)⟩, rfl⟩
theorem clausesOf_ok (l : List Int) (vars : Int) : (∀ c ∈ clausesOf l vars, c ≠ [] ∧ c.length ≤ 5 ∧ ∀ x ∈ c, x ≠ 0 ∧ -vars ≤ x ∧ x ≤ vars) ∧ (clausesOf l vars).flatten.length ≤ l.length ∧ (clausesOf l vars).length ≤ l.length := by
  unfold clausesOf
  split
  · simp
  · have h0 := foldC_ok (show 0 < vars by omega) l 0 _ (CI0 vars)
    have h4 := h0.len2
    obtain ⟨h1, h2, h3⟩ := h0
    generalize l.foldl (stepC vars) ([], []) = s at *
    unfold endC
    split
    · rename_i hp
      refine ⟨fun c hc => ?_, by simp only [List.flatten_append, List.length_append, List.flatten_cons, List.flatten_nil, List.append_nil, List.nil_append, List.length_singleton, List.length_nil]; omega, by simp only [List.flatten_append, List.length_append, List.flatten_cons, List.flatten_nil, List.append_nil, List.nil_append, List.length_singleton, List.length_nil]; omega⟩
      rcases List.mem_append.1 hc with hc | hc
      · exact h1 c hc
      · simp at hc; subst hc
        exact ⟨fun e => by rw [e] at hp; simp at hp, h2⟩
    · exact ⟨h1, by omega, by omega⟩

theorem Acc.apart {α : Type} {v : Vw α} {n m : Nat} {τ : Heap} {os : List α} {cl : List Int} {o c : AVal} (hO : Acc v n (out τ c) os o) (hC : Acc .int m τ cl c) : SlV .int (out τ o) cl c := by
  refine hC.sl.flat Vw.int_flat (by rw [out_next]; exact Nat.le_refl _) fun l off len k e => ?_
  rcases hO with ⟨rfl, _⟩ | ⟨lo, cs, rfl, h1, h2, h3, _⟩
  · rfl
  · subst e
    have h3 : (τ.kill l).get lo = _ := h3
    rw [hkill_get] at h3
    split at h3
    · cases h3
    · rename_i h
      show (τ.kill lo).get l = _
      rw [hkill_get, if_neg (fun e => h e.symm)]

theorem clauses_w {σ : Heap} {l : List Int} {vars : Int} {x : AVal} (hx : SlV .int σ l x) (hb : l.length ≤ 1000000) (hv : vars ≤ 1000000) :
    W (S.skolemmake_Clauses x vars σ) fun r => Hle σ r.2 ∧ Acc (vIsF σ.next) σ.next r.2 (clausesOf l vars) r.1 := by
  unfold S.skolemmake_Clauses clausesOf
  by_cases hv1 : vars < 1
  · repeat' (first | (with_reducible refine W.ret ?_) | (with_reducible refine W.condT ?_ ?_; focus (first | (simp only [q1, q2, q3, q4, q5, q6, q7, q8, q9, q10, q11, q12, q13, q14, q15, q16, q17, q18, q19, q20, q21, q22, q23, q24, q25, q26, q27, q28, q29, q30]; done) | (simp only [q1, q2, q3, q4, q5, q6, q7, q8, q9, q10, q11, q12, q13, q14, q15, q16, q17, q18, q19, q20, q21, q22, q23, q24, q25, q26, q27, q28, q29, q30]; omega) | assumption)))
    rw [if_pos hv1]
    exact ⟨Hle.refl _, Acc.nil _ _ _⟩
  repeat' (first | (with_reducible refine W.bind ?_) | (with_reducible refine W.condF ?_ ?_; focus (first | (simp only [q1, q2, q3, q4, q5, q6, q7, q8, q9, q10, q11, q12, q13, q14, q15, q16, q17, q18, q19, q20, q21, q22, q23, q24, q25, q26, q27, q28, q29, q30]; done) | (simp only [q1, q2, q3, q4, q5, q6, q7, q8, q9, q10, q11, q12, q13, q14, q15, q16, q17, q18, q19, q20, q21, q22, q23, q24, q25, q26, q27, q28, q29, q30]; omega) | assumption)))
  rw [if_neg hv1]
  refine W.loop l.length (fun i (y : AVal × AVal × Int) τ => y.2.2 = (i : Int) ∧ Hle σ τ ∧ Acc (vIsF σ.next) σ.next (out τ y.2.1) ((l.take i).foldl (stepC vars) ([], [])).1 y.1 ∧ Acc .int σ.next τ ((l.take i).foldl (stepC vars) ([], [])).2 y.2.1)
    ⟨rfl, Hle.refl _, Acc.nil _ _ _, Acc.nil _ _ _⟩ fun i y τ hi hI => ?_
  obtain ⟨o, c, j⟩ := y
  obtain ⟨rfl, L, hO, hC⟩ := hI
  dsimp only at hO hC
  have hci := foldC_ok (show 0 < vars by omega) (l.take i) 0 _ (CI0 vars)
  have hti : (l.take i).length ≤ i := by simp; omega
  unfold S.skolemmake_Clauses.b0
  dsimp only
  have hx' := hx.mono L
  repeat' (with_reducible refine W.len (by assumption) ?_)
  (with_reducible refine W.cnd (fun hq => ?_) (fun hq => ?_) <;> (try simp only [q1, q2, q3, q4, q5, q6, q7, q8, q9, q10, q11, q12, q13, q14, q15, q16, q17, q18, q19, q20, q21, q22, q23, q24, q25, q26, q27, q28, q29, q30] at hq) <;> (try (exfalso; omega)))
  · obtain ⟨n, hn⟩ : ∃ n, l[i]? = some n := ⟨_, List.getElem?_eq_getElem (by omega)⟩
    have htk : l.take (i + 1) = l.take i ++ [n] := by rw [List.take_add_one, hn]; rfl
    have hstep : (l.take (i + 1)).foldl (stepC vars) ([], []) = stepC vars ((l.take i).foldl (stepC vars) ([], [])) n := by rw [htk, List.foldl_append]; rfl
    rw [hstep]
    generalize (l.take i).foldl (stepC vars) ([], []) = s at *
    have hCl := hC.sl
    have c4 := hci.len2
    obtain ⟨c1, c2, c3⟩ := hci
    repeat' (with_reducible (first | refine W.bind ?_ | refine W.ixIc (by assumption) (by assumption) ?_))
    refine W.to (number_eq (by omega) (by omega)) ?_
    repeat' (with_reducible refine W.ret ?_)
    have hcut : W (cond (n % 7 == 0) (lenV c fun n9 => cond (decide (n9 > 0)) (some true) (lenV c fun n10 => some (decide (n10 ≥ 5)))) (lenV c fun n11 => some (decide (n11 ≥ 5)))) fun r => r = decide ((n % 7 = 0 ∧ s.2.length > 0) ∨ s.2.length ≥ 5) := by
      repeat' (first | (with_reducible (first | refine W.ret ?_ | refine W.len (by assumption) ?_)) | (with_reducible refine W.cnd (fun hc => ?_) (fun hc => ?_) <;> (try simp only [q1, q2, q3, q4, q5, q6, q7, q8, q9, q10, q11, q12, q13, q14, q15, q16, q17, q18, q19, q20, q21, q22, q23, q24, q25, q26, q27, q28, q29, q30] at hc) <;> (try (exfalso; omega))))
      all_goals first | exact (decide_eq_true (by omega)).symm | exact (decide_eq_false (by omega)).symm | exact decide_eq_decide.2 (by omega)
    refine W.mono hcut fun r hr => ?_
    subst hr
    -- the cut
    have hmid : W (cond (decide ((n % 7 = 0 ∧ s.2.length > 0) ∨ s.2.length ≥ 5)) (scal c (newK τ 1 [c] fun l13 σ14 => appS σ14 1 24 o (.sl l13 0 1 none) fun v15 σ16 => some ((v15, AVal.nils), σ16))) (some ((o, c), τ))) fun r =>
        Hle σ r.2 ∧ ∃ t : List (List Int) × List Int, t = (if (n % 7 = 0 ∧ s.2.length > 0) ∨ s.2.length ≥ 5 then (s.1 ++ [s.2], []) else s) ∧ t.2.length ≤ 5 ∧ Acc (vIsF σ.next) σ.next (out r.2 r.1.2) t.1 r.1.1 ∧ Acc .int σ.next r.2 t.2 r.1.2 := by
      (with_reducible refine W.cnd (fun hcc => ?_) (fun hcc => ?_) <;> (try simp only [q1, q2, q3, q4, q5, q6, q7, q8, q9, q10, q11, q12, q13, q14, q15, q16, q17, q18, q19, q20, q21, q22, q23, q24, q25, q26, q27, q28, q29, q30] at hcc) <;> (try (exfalso; omega)))
      · refine W.scalS hCl ?_
        have hO' := hO.mono (Hle.out _ _)
        refine W.push hO' L (cs := [c]) (a := s.2) ⟨c, rfl, hO.apart hC, hC.from (Nat.le_refl _)⟩ (by omega) (by omega) fun o' τ' L' hO'' _ => ?_
        repeat' (with_reducible refine W.ret ?_)
        exact ⟨L', _, rfl, by rw [if_pos (by simpa using hcc)]; simp, by rw [if_pos (by simpa using hcc)]; exact hO'', by rw [if_pos (by simpa using hcc)]; exact Acc.nil _ _ _⟩
      · repeat' (with_reducible refine W.ret ?_)
        have hcc' : ¬ ((n % 7 = 0 ∧ s.2.length > 0) ∨ s.2.length ≥ 5) := by simpa using hcc
        exact ⟨L, _, rfl, by rw [if_neg hcc']; exact c2.1, by rw [if_neg hcc']; exact hO, by rw [if_neg hcc']; exact hC⟩
    repeat' (with_reducible refine W.bind ?_)
    refine W.mono hmid fun r hr => ?_
    obtain ⟨⟨o', c'⟩, τ'⟩ := r
    obtain ⟨L', t, ht, ht5, hO', hC'⟩ := hr
    dsimp only at L' hO' hC' ⊢
    have hx2 := hx.mono L'
    repeat' (with_reducible (first | refine W.bind ?_ | refine W.ixIc (by assumption) (by assumption) ?_))
    refine W.to (number_eq (by omega) (by omega)) ?_
    repeat' (with_reducible (first | refine W.ret ?_ | refine W.bind ?_))
    have h0 := Int.emod_nonneg n (show (1099511627776 : Int) ≠ 0 by omega)
    have h1 := Int.emod_lt_of_pos n (show (0 : Int) < 1099511627776 by omega)
    have w : IntKind.i64.wrap (Int.tdiv (n % 1099511627776) 7) = n % 1099511627776 / 7 := by
      rw [Int.tdiv_eq_ediv_of_nonneg h0, wrapS] <;> omega
    rw [w]
    refine W.to (lit_eq (by omega) hv) ?_
    repeat' (with_reducible refine W.ret ?_)
    refine W.pushI hC' L' (by omega) (by omega) fun c2 τ2 L2 hC2 X2 => ?_
    repeat' (with_reducible (first | refine W.next ?_ | refine W.ret ?_))
    refine ⟨by omega, sk, L2, ?_, ?_⟩
    · unfold stepC; rw [← ht]; exact hO'.mono X2
    · unfold stepC; rw [← ht]; exact hC2
  · repeat' (with_reducible refine W.stop ?_)
    rw [List.take_of_length_le (by omega)] at hO hC hci
    generalize l.foldl (stepC vars) ([], []) = s at *
    have c4 := hci.len2
    obtain ⟨c1, c2, c3⟩ := hci
    have hCl := hC.sl
    unfold endC
    repeat' (with_reducible (first | refine W.bind ?_ | refine W.len (by assumption) ?_))
    (with_reducible refine W.cnd (fun hcc => ?_) (fun hcc => ?_) <;> (try simp only [q1, q2, q3, q4, q5, q6, q7, q8, q9, q10, q11, q12, q13, q14, q15, q16, q17, q18, q19, q20, q21, q22, q23, q24, q25, q26, q27, q28, q29, q30] at hcc) <;> (try (exfalso; omega)))
    · refine W.scalS hCl ?_
      have hO' := hO.mono (Hle.out _ _)
      refine W.push hO' L (cs := [c]) (a := s.2) ⟨c, rfl, hO.apart hC, hC.from (Nat.le_refl _)⟩ (by omega) (by omega) fun o' τ' L' hO'' _ => ?_
      repeat' (with_reducible refine W.ret ?_)
      rw [if_pos (by omega)]
      exact ⟨L', hO''⟩
    · repeat' (with_reducible refine W.ret ?_)
      rw [if_neg (by omega)]
      exact ⟨L, hO.mono (Hle.out _ _)⟩
end Go.Proofs.YtgneblbblihaoaaGreatDoor.A

/- A formula out of numbers. -/
namespace Go.Proofs.YtgneblbblihaoaaGreatDoor.A
open Go
section
variable {α β : Type} {v : Vw α} {w : Vw β} {n m k l : Nat} {σ τ : Heap} {xs : List α} {ys : List β} {x y : AVal} {cs : List AVal}
theorem out_get (τ : Heap) (x : AVal) (l : Nat) (h : ∀ off len c, x ≠ .sl l off len c) : (out τ x).get l = τ.get l := by
  cases x with
  | sl k off len c =>
    show (τ.kill k).get l = _
    rw [hkill_get, if_neg (fun e => h off len c (by rw [e]))]
  | _ => rfl
theorem Acc.kill (h : Acc v n σ xs x) (hv : v.Over n) (hk : k < n) : Acc v n (σ.kill k) xs x := by
  rcases h with h | ⟨l, cs, h1, h2, h3, h4, h5, h6⟩
  · exact .inl h
  · refine .inr ⟨l, cs, h1, h2, h3, by rw [hkill_get, if_neg (by omega)]; exact h4, h5, fun i a hi => ?_⟩
    refine hv (σ.kill l) ((σ.kill k).kill l) _ _ (Nat.le_refl _) (fun j o hj hg => ?_) (h6 i a hi)
    rw [hkill_get] at hg ⊢
    split at hg
    · cases hg
    · rename_i h; rw [if_neg h, hkill_get, if_neg (by omega)]; exact hg
theorem Loc.out (h : Loc σ l cs) (hx : ∀ off len c, x ≠ .sl l off len c) : Loc (out σ x) l cs := ⟨by rw [out_next]; exact h.lt, h.get.elim fun sz e => ⟨sz, by rw [out_get _ _ _ hx]; exact e⟩⟩
end
end Go.Proofs.YtgneblbblihaoaaGreatDoor.A

/- A formula out of numbers, whole. -/
namespace Go.Proofs.YtgneblbblihaoaaGreatDoor.A
open Go
theorem Acc.widen {σ : Heap} {n m : Nat} {xs : List (List Int)} {x : AVal} (h : Acc (vIsF n) n σ xs x) (hm : m ≤ n) : Acc (vIsF m) m σ xs x := by
  rcases h with h | ⟨j, cs, e1, e2, e3, e4, e5, e6⟩
  · exact .inl h
  · exact .inr ⟨j, cs, e1, by omega, e3, e4, e5, fun i a hi => by
      obtain ⟨u, q1, q2, q3⟩ := e6 i a hi
      exact ⟨u, q1, q2, fun l off len c e => by have := q3 l off len c e; omega⟩⟩
theorem cnf_w {σ : Heap} {l : List Int} {vars : Int} {x : AVal} (hx : SlV .int σ l x) (hb : l.length ≤ 1000000) (hv : vars ≤ 1000000) :
    W (S.skolemmake_CNF x vars σ) fun r => Hle σ r.2 ∧ ∃ y, r.1 = .agg [.int .i64 vars, y] ∧ Acc (vIsF σ.next) σ.next r.2 (clausesOf l vars) y := by
  unfold S.skolemmake_CNF
  refine W.new fun l1 τ hl1 L h1 hnτ => ?_
  refine W.call (clauses_w (hx.mono L) hb hv) fun r hr => ?_
  obtain ⟨y, τ2⟩ := r
  obtain ⟨L2, hA⟩ := hr
  dsimp only at L2 hA ⊢
  replace L := L.mono L2
  replace h1 := h1.mono L2
  have hnx := L2.next
  refine W.scalS hA.sl ?_
  refine W.st0 h1 (by rfl) fun τ3 L3 hnτ3 h1 => ?_
  repeat' (with_reducible (first | refine W.ret ?_ | refine W.ldGL (by assumption) (Nat.le_of_ble_eq_true (by with_unfolding_all rfl)) ?_))
  exact ⟨L.ofk (by omega) L3, y, rfl, ((hA.kill (k := l1) (vIsF_over _) (by omega)).mono L3).widen (by omega)⟩

end Go.Proofs.YtgneblbblihaoaaGreatDoor.A

/- What is true in a model; what a proof shows; the document's Of, Sat, Values. -/
namespace Go.Proofs.YtgneblbblihaoaaGreatDoor.A
open Go
/-! ### Models -/
def holds (m : Nat → Bool) (l : Int) : Bool := m l.natAbs == decide (0 < l)
def tru (m : Nat → Bool) (c : List Int) : Prop := ∃ l ∈ c, holds m l = true
def mods (m : Nat → Bool) (D : List (List Int)) : Prop := ∀ c ∈ D, tru m c
def nz (D : List (List Int)) : Prop := ∀ c ∈ D, ∀ l ∈ c, l ≠ 0
theorem holds_neg {m : Nat → Bool} {l : Int} (h : l ≠ 0) : holds m (-l) = !holds m l := by
  unfold holds
  rw [Int.natAbs_neg]
  by_cases h1 : 0 < l
  · have : ¬ 0 < -l := by omega
    simp only [h1, this, decide_true, decide_false]; cases m l.natAbs <;> rfl
  · have : 0 < -l := by omega
    simp only [h1, this, decide_true, decide_false]; cases m l.natAbs <;> rfl
theorem Der.holds {D : List (List Int)} {s : List Int} {m : Nat → Bool} (hD : mods m D) (hz : nz D) (hs : ∀ l ∈ s, A.holds m l = true) {l : Int} (h : Der D s l) : A.holds m l = true := by
  induction h with
  | start h => exact hs _ h
  | unit hc hl _ ih =>
    rename_i c l _
    obtain ⟨k, hk, ht⟩ := hD c hc
    by_cases e : k = l
    · rw [← e]; exact ht
    · have := ih k hk e
      rw [holds_neg (hz c hc k hk), ht] at this
      cases this
theorem Conf.false {D : List (List Int)} {s : List Int} {m : Nat → Bool} (hD : mods m D) (hz : nz D) (hs : ∀ l ∈ s, A.holds m l = true) (h : Conf D s) (hs0 : ∀ l ∈ s, l ≠ 0) : False := by
  rcases h with ⟨l, h1, h2⟩ | ⟨c, hc, h⟩
  · have e1 := h1.holds hD hz hs
    have e2 := h2.holds hD hz hs
    have hl : l ≠ 0 := by
      cases h1 with
      | start h => exact hs0 _ h
      | unit hc hl _ => exact hz _ hc _ hl
    rw [holds_neg hl, e1] at e2; cases e2
  · obtain ⟨k, hk, ht⟩ := hD c hc
    have := (h k hk).holds hD hz hs
    rw [holds_neg (hz c hc k hk), ht] at this
    cases this
theorem impl_tru {vars : Int} {D : List (List Int)} {c : List Int} {m : Nat → Bool} (h : impl vars D c = true) (hD : mods m D) (hz : nz D) : tru m c := by
  obtain ⟨hR, hC⟩ := impl_iff.1 h
  refine Classical.byContradiction fun hn => ?_
  refine hC.false hD hz (fun l hl => ?_) fun l hl => ?_
  · obtain ⟨a, ha, rfl⟩ := List.mem_map.1 hl
    rw [holds_neg (hR a ha).1]
    cases e : holds m a with
    | true => exact absurd ⟨a, ha, e⟩ hn
    | false => rfl
  · obtain ⟨a, ha, rfl⟩ := List.mem_map.1 hl
    have := (hR a ha).1; omega
end Go.Proofs.YtgneblbblihaoaaGreatDoor.A

/- The laws of drat: the first examples, light steps, steps of numbers; DratSound. -/
namespace Go.Proofs.YtgneblbblihaoaaGreatDoor.A
open Go
/-! ### Examples -/
theorem conf_unit2 : Conf [[1], [-1]] [] := .inl ⟨1, .unit (c := [1]) (by simp) (by simp) (fun k hk hne => by simp at hk; exact absurd hk hne), .unit (c := [-1]) (by simp) (by simp) (fun k hk hne => by simp at hk; exact absurd hk hne)⟩
theorem normL_one (a : Int) : normL [a] = [a] := strict_ext (normL_strict _) (by simp) fun v => normL_mem
theorem refuteF_ex1 : refuteF 1 [[1], [-1]] [] = none := by
  unfold refuteF
  have hp : preF 1 [[1], [-1]] [] = none := by decide
  rw [hp]
  have hg : greatest 1 [] = 1 := rfl
  dsimp only
  rw [runD]
  have hi : impl 1 [[1], [-1]] [] = true := impl_iff.2 ⟨by simp [rightC], conf_unit2⟩
  have hm : ([[1], [-1]] : List (List Int)).map normL = [[1], [-1]] := by simp [normL_one]
  dsimp only
  rw [hg, hm, hi]; rfl
theorem refuteF_ex2 : refuteF 1 [] [] = some (.proof, none) := by
  unfold refuteF
  have hp : preF 1 [] [] = none := by decide
  rw [hp]
  dsimp only
  rw [runD]
  dsimp only
  have hi : impl (greatest 1 []) (([] : List (List Int)).map normL) [] = false := by
    rw [Bool.eq_false_iff]
    intro h
    obtain ⟨l, hl, _⟩ := impl_tru (m := fun _ => true) h (fun c hc => by cases hc) (fun c hc => by cases hc)
    cases hl
  rw [hi]; rfl
theorem first22_w {σ : Heap} (hg : GlS [.limit, .range, .proof] σ) : W (S.skolemlaw22_first σ) fun r => r.1 = true ∧ Hle σ r.2 := by
  unfold S.skolemlaw22_first
  refine W.newg fun l1 τ1 hl1 L1 _ g1 n1 => ?_
  refine W.newg fun l2 τ2 hl2 L2 _ g2 n2 => ?_
  refine W.newg fun l3 τ3 hl3 L3 _ g3 n3 => ?_
  have g1' := L3.get _ _ (by omega) (L2.get _ _ (by omega) g1)
  have g2' := L3.get _ _ (by omega) g2
  have hs1 : SlV .int τ3 [1] (.sl l1 0 1 none) := .inr ⟨l1, 0, none, .rw, _, rfl, by omega, g1', Nat.le_of_ble_eq_true rfl, fun i a hi => by
    match i, hi with
    | 0, hi => cases hi; rfl
    | i + 1, hi => simp at hi⟩
  have hs2 : SlV .int τ3 [-1] (.sl l2 0 1 none) := .inr ⟨l2, 0, none, .rw, _, rfl, by omega, g2', Nat.le_of_ble_eq_true rfl, fun i a hi => by
    match i, hi with
    | 0, hi => cases hi; rfl
    | i + 1, hi => simp at hi⟩
  have hs : SlV vIs τ3 [[1], [-1]] (.sl l3 0 2 none) := .inr ⟨l3, 0, none, .rw, _, rfl, by omega, g3, Nat.le_of_ble_eq_true rfl, fun i a hi => by
    match i, hi with
    | 0, hi => cases hi; exact ⟨_, rfl, hs1⟩
    | 1, hi => cases hi; exact ⟨_, rfl, hs2⟩
    | i + 2, hi => simp at hi⟩
  refine W.new fun l4 τ4 hl4 L4 h4 hnτ4 => ?_
  refine W.st0 h4 (by rfl) fun τ5 L5 hnτ5 h4 => ?_
  have L45 := L4.ofk (by omega) L5
  replace hs := hs.mono L45
  have hnx := L45.next
  have L := ((L1.mono L2).mono L3).mono L45
  replace hg := hg.mono L
  have hnx := L.next
  repeat' (with_reducible (first | refine W.bind ?_ | refine W.ldGL (by assumption) (Nat.le_of_ble_eq_true (by with_unfolding_all rfl)) ?_))
  refine W.mono (refute_w (vars := 1) (ss := []) hg hs (SlV.nil _ _) (by decide) (by decide) (by decide) (by decide)) fun r hr => ?_
  obtain ⟨v, τ6⟩ := r
  obtain ⟨L6, hF⟩ := hr
  dsimp only at L6 hF ⊢
  replace hg := hg.mono L6
  replace L := L.mono L6
  have hnx := L6.next
  refine W.fnil hF ?_
  rw [refuteF_ex1]
  refine W.condT rfl ?_
  repeat' (with_reducible refine W.bind ?_)
  refine W.mono (refute_w (vars := 1) (cs := []) (ss := []) hg (SlV.nil _ _) (SlV.nil _ _) (by decide) (by decide) (by decide) (by decide)) fun r hr => ?_
  obtain ⟨v, τ7⟩ := r
  obtain ⟨L7, hF⟩ := hr
  dsimp only at L7 hF ⊢
  refine W.fnil hF ?_
  rw [refuteF_ex2]
  repeat' (with_reducible refine W.ret ?_)
  exact ⟨rfl, L.mono L7⟩
theorem light22_w {σ : Heap} {ss : List (Bool × List Int)} {x : AVal} (hx : SlV vB σ ss x) (hl : ss.length ≤ 4611686018427387904) (hs : ∀ s ∈ ss, s.2.length ≤ 4611686018427387904) : W (S.skolemlaw22_light x σ) fun r => r = true → ss.length ≤ 30 ∧ ∀ s ∈ ss, s.2.length ≤ 12 ∧ ∀ l ∈ s.2, -1152921504606846976 ≤ l := by
  unfold S.skolemlaw22_light
  repeat' (with_reducible refine W.len (by assumption) ?_)
  (with_reducible refine W.cnd (fun hc => ?_) (fun hc => ?_) <;> (try simp only [q1, q2, q3, q4, q5, q6, q7, q8, q9, q10, q11, q12, q13, q14, q15, q16, q17, q18, q19, q20, q21, q22, q23, q24, q25, q26, q27, q28, q29, q30, Kd.ty] at hc) <;> (try (exfalso; omega)))
  · repeat' (with_reducible refine W.ret ?_)
    intro e; cases e
  · repeat' (with_reducible refine W.bind ?_)
    refine W.loopP ss.length (fun i y => y = (i : Int) ∧ ∀ s ∈ ss.take i, s.2.length ≤ 12 ∧ ∀ l ∈ s.2, -1152921504606846976 ≤ l) ⟨rfl, by simp⟩ fun i y hi hI => ?_
    obtain ⟨rfl, hI⟩ := hI
    unfold S.skolemlaw22_light.b0
    repeat' (with_reducible refine W.len (by assumption) ?_)
    (with_reducible refine W.cnd (fun hq => ?_) (fun hq => ?_) <;> (try simp only [q1, q2, q3, q4, q5, q6, q7, q8, q9, q10, q11, q12, q13, q14, q15, q16, q17, q18, q19, q20, q21, q22, q23, q24, q25, q26, q27, q28, q29, q30, Kd.ty] at hq) <;> (try (exfalso; omega)))
    · obtain ⟨s, hsi⟩ : ∃ s, ss[i]? = some s := ⟨_, List.getElem?_eq_getElem (by omega)⟩
      have hms := List.mem_of_getElem? hsi
      refine W.bind ?_
      refine W.ixkc hx hsi fun p us hp hr => ?_
      obtain ⟨y, rfl, hy⟩ := vB_rel hr
      repeat' (with_reducible (first | refine W.asV ?_ | refine W.len (by assumption) ?_ | refine W.fldld (by assumption) (by with_unfolding_all rfl) ?_))
      (with_reducible refine W.cnd (fun h12 => ?_) (fun h12 => ?_) <;> (try simp only [q1, q2, q3, q4, q5, q6, q7, q8, q9, q10, q11, q12, q13, q14, q15, q16, q17, q18, q19, q20, q21, q22, q23, q24, q25, q26, q27, q28, q29, q30, Kd.ty] at h12) <;> (try (exfalso; omega)))
      · repeat' (with_reducible refine W.ret ?_)
        refine W.condT rfl ?_
        repeat' (with_reducible (first | refine W.stopP ?_ | refine W.ret ?_))
        intro e; cases e
      · refine W.ixkc hx hsi fun p us hp hr => ?_
        obtain ⟨y, rfl, hy⟩ := vB_rel hr
        repeat' (with_reducible (first | refine W.bind ?_ | refine W.asV ?_ | refine W.fldld (by assumption) (by with_unfolding_all rfl) ?_))
        obtain ⟨b, eb, hb⟩ := near_eq hy (hs s hms)
        refine W.to eb ?_
        repeat' (with_reducible refine W.ret ?_)
        (with_reducible refine W.cnd (fun hn => ?_) (fun hn => ?_) <;> (try simp only [q1, q2, q3, q4, q5, q6, q7, q8, q9, q10, q11, q12, q13, q14, q15, q16, q17, q18, q19, q20, q21, q22, q23, q24, q25, q26, q27, q28, q29, q30, Kd.ty] at hn) <;> (try (exfalso; omega)))
        · repeat' (with_reducible (first | refine W.stopP ?_ | refine W.ret ?_))
          intro e; cases e
        · repeat' (with_reducible refine W.nextP ?_)
          refine ⟨by omega, sk, fun s' hs' => ?_⟩
          rw [List.take_add_one, hsi] at hs'
          rcases List.mem_append.1 hs' with h | h
          · exact hI s' h
          · have e : s' = s := by simpa using h
            rw [e]
            exact ⟨by omega, hb hn⟩
    · repeat' (with_reducible (first | refine W.stopP ?_ | refine W.ret ?_))
      rw [List.take_of_length_le (by omega)] at hI
      exact fun _ => ⟨by omega, hI⟩
/-- Numbers as0 steps. -/
theorem steps22_w {σ : Heap} {l : List Int} {x : AVal} (hx : SlV .int σ l x) (hb : l.length ≤ 1000000) : W (S.skolemlaw22_steps x σ) fun r => Hle σ r.2 ∧ ∃ ss, SlV vB r.2 ss r.1 ∧ litsOf ss = clausesOf l 9 := by
  unfold S.skolemlaw22_steps
  refine W.call (clauses_w hx hb (by omega)) fun r hr => ?_
  obtain ⟨y, τ⟩ := r
  obtain ⟨L, hA⟩ := hr
  dsimp only at L hA ⊢
  have hcs := SlV.ofIsF hA.sl
  have hx' := hx.mono L
  obtain ⟨_, _, hlen⟩ := clausesOf_ok l 9
  refine W.call (P := fun r => Hle τ r.2 ∧ ∃ ss, Acc vB τ.next r.2 ss r.1 ∧ litsOf ss = clausesOf l 9) ?_ fun r hr => ?_
  · refine W.loop (clausesOf l 9).length (fun i (z : AVal × Int) τ' => z.2 = (i : Int) ∧ Hle τ τ' ∧ ∃ ss, Acc vB τ.next τ' ss z.1 ∧ litsOf ss = (clausesOf l 9).take i) ⟨rfl, Hle.refl _, [], Acc.nil _ _ _, rfl⟩ fun i z τ' hi hI => ?_
    obtain ⟨z, j⟩ := z
    obtain ⟨rfl, L', ss, hB, hss⟩ := hI
    dsimp only at hB ⊢
    have hcs' := hcs.mono L'
    have hx2 := hx'.mono L'
    have hsl : ss.length = i := by
      have := congrArg List.length hss
      simp [litsOf] at this; omega
    unfold S.skolemlaw22_steps.b0
    repeat' (with_reducible refine W.len (by assumption) ?_)
    (with_reducible refine W.cnd (fun hc => ?_) (fun hc => ?_) <;> (try simp only [q1, q2, q3, q4, q5, q6, q7, q8, q9, q10, q11, q12, q13, q14, q15, q16, q17, q18, q19, q20, q21, q22, q23, q24, q25, q26, q27, q28, q29, q30, Kd.ty] at hc) <;> (try (exfalso; omega)))
    · obtain ⟨c, hci⟩ : ∃ c, (clausesOf l 9)[i]? = some c := ⟨_, List.getElem?_eq_getElem (by omega)⟩
      repeat' (with_reducible refine W.len (by assumption) ?_)
      rw [if_neg (by omega)]
      have ht : Int.tmod (i : Int) (l.length : Int) = ((i % l.length : Nat) : Int) := by
        rw [Int.tmod_eq_emod_of_nonneg (by omega)]; exact (Int.natCast_emod _ _).symm
      rw [ht]
      have hml : i % l.length < l.length := Nat.mod_lt _ (by omega)
      refine W.ixInc hx2 hml fun n hn => ?_
      refine W.bind ?_
      refine W.to (number_eq (by decide) (by decide)) ?_
      repeat' (with_reducible refine W.ret ?_)
      refine W.ixkLS hcs L' hci fun v hv => ?_
      have hv' := hv.mono L'
      repeat' (with_reducible refine W.scalS (by assumption) ?_)
      refine W.push (bytes := 32) hB L' (a := (n % 5 == 0, c)) (cs := [.bool (n % 5 == 0), v]) ⟨[.bool (n % 5 == 0)], [v], rfl, rfl, v, rfl, hv.mono (hB.out_le L')⟩ (by omega) (by omega) fun x2 τ2 L2 hB2 _ => ?_
      repeat' (with_reducible refine W.next ?_)
      refine ⟨by omega, sk, L2, _, hB2, ?_⟩
      unfold litsOf at hss ⊢
      rw [List.map_append, hss, List.take_add_one, hci]; rfl
    · repeat' (with_reducible refine W.stop ?_)
      rw [List.take_of_length_le (by omega)] at hss
      exact ⟨L', ss, hB, hss⟩
  · obtain ⟨z, τ2⟩ := r
    obtain ⟨L2, ss, hB, hss⟩ := hr
    repeat' (with_reducible refine W.ret ?_)
    exact ⟨L.mono L2, ss, hB.sl, hss⟩

end Go.Proofs.YtgneblbblihaoaaGreatDoor.A

/- DratSound, plain. -/
namespace Go.Proofs.YtgneblbblihaoaaGreatDoor.A
open Go
theorem flat12 {ss : List (Bool × List Int)} (h : ∀ s ∈ ss, s.2.length ≤ 12) : (litsOf ss).flatten.length ≤ 12 * ss.length := by
  unfold litsOf
  induction ss with
  | nil => simp
  | cons s t ih =>
    have h1 := h s (by simp)
    have h2 := ih fun s hs => h s (by simp [hs])
    simp only [List.map_cons, List.flatten_cons, List.length_append, List.length_cons]
    omega
theorem litsOf_len (ss : List (Bool × List Int)) : (litsOf ss).length = ss.length := by simp [litsOf]
end Go.Proofs.YtgneblbblihaoaaGreatDoor.A

/- Lists of lists of one's own; DratGoals. -/
namespace Go.Proofs.YtgneblbblihaoaaGreatDoor.A
open Go
/-! ### Views, by their values -/
theorem slIs_of {σ : Heap} {ws : List AVal} {cs : List (List Int)} {x : AVal} (h : SlV vRaw σ ws x) (hl : ws.length = cs.length) (hc : ∀ (i : Nat) (c : List Int), cs[i]? = some c → ∃ w, ws[i]? = some w ∧ SlV .int σ c w) : SlV vIs σ cs x := by
  rcases h with ⟨rfl, rfl⟩ | ⟨l, off, c, md, us, rfl, h2, h3, h4, h5⟩
  · have : cs = [] := List.eq_nil_of_length_eq_zero (by simpa using hl.symm)
    exact .inl ⟨rfl, this⟩
  · refine .inr ⟨l, off, c, md, us, by rw [hl], h2, h3, by rw [← hl]; exact h4, fun i a ha => ?_⟩
    obtain ⟨w, hw, hs⟩ := hc i a ha
    exact ⟨w, h5 i w hw, hs⟩
theorem preF_ok {vars : Int} {cs : List (List Int)} {ss : List (Bool × List Int)} (hC : chkC vars cs = none) (hP : chkP ss = none) : preF vars cs ss = none := by
  unfold preF; rw [hC]; exact hP
end Go.Proofs.YtgneblbblihaoaaGreatDoor.A

/- The document's values and closure. -/
namespace Go.Proofs.YtgneblbblihaoaaGreatDoor.A
open Go
theorem W.ixZ {R α : Type} {v : Vw α} {σ : Heap} {xs : List α} {x : AVal} {i : Nat} {Q : R → Prop} (h : SlV v σ xs x) {z : Int} (hz : z = (i : Int)) (hi : i < xs.length) {sz : Nat} {K : AVal → Option R} (c : W (K (ptrK x sz i 0)) Q) (hs : sz = v.sz := by rfl) : W (ixA σ x sz z K) Q := by
  subst hz
  exact W.ixO h hi c hs
theorem refValue_eq {σ : Heap} {l : Nat} {x : AVal} {vs : List Int} (h1 : Loc σ l [x]) (h2 : SlV .int σ vs x) (hv : Vok vs) (hl : 0 < vs.length) (hb : vs.length ≤ 1000000) {k : Int} (hin : inB k = true) : S.skolemref1_Assign_Value (.ptr l 0) k σ = some (val vs k) := by
  obtain ⟨r, e, rfl⟩ : W (S.skolemref1_Assign_Value (.ptr l 0) k σ) fun r => r = val vs k := by
    simp only [inB, Bool.and_eq_true, decide_eq_true_eq] at hin
    have w : IntKind.i64.wrap ((vs.length : Int) - 1) = (vs.length : Int) - 1 := by rw [wrapS] <;> omega
    unfold S.skolemref1_Assign_Value val
    repeat' (with_reducible (first | refine W.bind ?_ | refine W.asV ?_ | refine W.fldp ?_ | refine W.len (by assumption) ?_ | refine W.ldL (by assumption) (by with_unfolding_all rfl) ?_ | refine W.nck ?_))
    rw [w]
    refine W.to (refIs_eq (by omega) (by omega)) ?_
    repeat' (with_reducible refine W.ret ?_)
    by_cases hi : isL k ((vs.length : Int) - 1) = true
    · have hi' := isL_iff.1 hi
      refine W.condF (by simp [hi]) ?_
      rw [if_neg (by omega)]
      repeat' (with_reducible (first | refine W.bind ?_ | refine W.asV ?_ | refine W.fldp ?_ | refine W.ldL (by assumption) (by with_unfolding_all rfl) ?_ | refine W.nck ?_))
      refine W.to (abs_eq ⟨by omega, by omega⟩) ?_
      repeat' (with_reducible refine W.ret ?_)
      obtain ⟨a, ha⟩ : ∃ a, vs[k.natAbs]? = some a := ⟨_, List.getElem?_eq_getElem (by omega)⟩
      have hg : vs.getD k.natAbs 0 = a := by rw [List.getD_eq_getElem?_getD, ha]; rfl
      have hok := getD_ok hv k.natAbs
      rw [hg] at hok ⊢
      refine W.ixIc h2 ha ?_
      repeat' (with_reducible refine W.bind ?_)
      (with_reducible refine W.cnd (fun hc => ?_) (fun hc => ?_) <;> (try simp only [q1, q2, q3, q4, q5, q6, q7, q8, q9, q10, q11, q12, q13, q14, q15, q16, q17, q18, q19, q20, q21, q22, q23, q24, q25, q26, q27, q28, q29, q30, Kd.ty] at hc) <;> (try (exfalso; omega)))
      · repeat' (with_reducible refine W.ret ?_)
        by_cases h0 : a = 0
        · subst h0
          refine W.condF (by rfl) ?_
          repeat' (with_reducible refine W.ret ?_)
          simp
        · refine W.condT (by simpa using h0) ?_
          repeat' (with_reducible refine W.ret ?_)
          rw [if_pos ⟨by omega, h0⟩, wrapS] <;> omega
      · repeat' (with_reducible refine W.ret ?_)
        refine W.condF rfl ?_
        repeat' (with_reducible refine W.ret ?_)
        rw [if_neg (by omega)]
    · refine W.condT (by simpa using hi) ?_
      repeat' (with_reducible refine W.ret ?_)
      have : ¬ (k ≠ 0 ∧ -((vs.length : Int) - 1) ≤ k ∧ k ≤ (vs.length : Int) - 1) := fun e => hi (isL_iff.2 e)
      rw [if_pos (by omega)]
  exact e
/-- The document's values. -/
structure RA (σ : Heap) (T : Tg) (l : Nat) (x : AVal) (vs : List Int) : Prop where
  loc : Loc (σ.at T 6) l [x]
  own : Own .int (σ.at T 7) vs x
theorem refSet_w {σ : Heap} {T : Tg} {l vars : Nat} {x : AVal} {vs : List Int} {k : Int} (h : RA σ T l x vs) (hn : Tn σ T) (hv : Vok vs) (hlen : vs.length = vars + 1) (hvl : vars ≤ 4000) (h0 : k ≠ 0) (hk : k.natAbs ≤ vars) :
    W (S.skolemref1_Assign_Set (.ptr l 0) k σ) fun r => (val vs k = 2 ∧ r = (false, σ)) ∨ (val vs k ≠ 2 ∧ r.1 = true ∧ Hop (only 7) σ T r.2 T ∧ RA r.2 T l x (setV vs k)) := by
  obtain ⟨hl, hO⟩ := h
  have hin : inB k = true := by simp [inB]; omega
  have w : IntKind.i64.wrap ((vs.length : Int) - 1) = (vs.length : Int) - 1 := by rw [wrapS] <;> omega
  have hi : isL k ((vs.length : Int) - 1) = true := isL_iff.2 ⟨h0, by omega, by omega⟩
  unfold S.skolemref1_Assign_Set
  repeat' (with_reducible (first | refine W.bind ?_ | refine W.asV ?_ | refine W.fldp ?_ | refine W.nck ?_ | refine W.ldL (Loc.up (by assumption)) (by with_unfolding_all rfl) ?_ | refine W.len (Own.slT (by assumption)) ?_))
  rw [w]
  refine W.to (refIs_eq (by omega) (by omega)) ?_
  repeat' (with_reducible refine W.ret ?_)
  refine W.condF (by simp [hi]) ?_
  repeat' (with_reducible refine W.bind ?_)
  refine W.to (refValue_eq hl.up hO.slT hv (by omega) (by omega) hin) ?_
  repeat' (with_reducible refine W.ret ?_)
  (with_reducible refine W.cnd (fun h2 => ?_) (fun h2 => ?_) <;> (try simp only [q1, q2, q3, q4, q5, q6, q7, q8, q9, q10, q11, q12, q13, q14, q15, q16, q17, q18, q19, q20, q21, q22, q23, q24, q25, q26, q27, q28, q29, q30, Kd.ty] at h2) <;> (try (exfalso; omega)))
  · repeat' (with_reducible refine W.ret ?_)
    exact .inl ⟨h2, rfl⟩
  · repeat' (with_reducible refine W.bind ?_)
    (with_reducible refine W.cnd (fun hp => ?_) (fun hp => ?_) <;> (try simp only [q1, q2, q3, q4, q5, q6, q7, q8, q9, q10, q11, q12, q13, q14, q15, q16, q17, q18, q19, q20, q21, q22, q23, q24, q25, q26, q27, q28, q29, q30, Kd.ty] at hp) <;> (try (exfalso; omega)))
    · repeat' (with_reducible (first | refine W.asV ?_ | refine W.fldp ?_ | refine W.nck ?_ | refine W.ldL (Loc.up (by assumption)) (by with_unfolding_all rfl) ?_))
      refine W.ixZ hO.slT (i := k.natAbs) (by omega) (by omega) ?_
      refine W.own_setI hO hn (by omega) fun τ hO H hnx => ?_
      repeat' (with_reducible refine W.ret ?_)
      refine .inr ⟨h2, rfl, H, hl.hop H, ?_⟩
      unfold setV
      rw [if_pos hp]; exact hO
    · have w2 : IntKind.i64.wrap (0 - k) = -k := by rw [wrapS] <;> omega
      repeat' (with_reducible (first | refine W.asV ?_ | refine W.fldp ?_ | refine W.nck ?_ | refine W.ldL (Loc.up (by assumption)) (by with_unfolding_all rfl) ?_))
      rw [w2]
      refine W.ixZ hO.slT (i := k.natAbs) (by omega) (by omega) ?_
      refine W.own_setI hO hn (by omega) fun τ hO H hnx => ?_
      repeat' (with_reducible refine W.ret ?_)
      refine .inr ⟨h2, rfl, H, hl.hop H, ?_⟩
      unfold setV
      rw [if_neg (by omega)]; exact hO
theorem refClause_w {σ : Heap} {l : Nat} {x y : AVal} {vs c : List Int} (h1 : Loc σ l [x]) (h2 : SlV .int σ vs x) (hv : Vok vs) (hl : 0 < vs.length) (hb : vs.length ≤ 1000000) (hy : SlV .int σ c y) (hin : ∀ l ∈ c, inB l = true ∧ l ≠ 0) (hcb : c.length ≤ 1000000) :
    W (S.skolemref1_Assign_Clause (.ptr l 0) y σ) fun r => ClW vs c r := by
  unfold S.skolemref1_Assign_Clause
  repeat' (with_reducible refine W.bind ?_)
  refine W.loopP c.length (fun i (z : Int × Int × Int) => z.2.2 = (i : Int) ∧ 0 ≤ z.2.1 ∧ z.2.1 ≤ i ∧ (∀ k ∈ c.take i, val vs k ≠ 1) ∧ (z.2.1 = 0 ↔ ∀ k ∈ c.take i, val vs k = 2) ∧ (z.2.1 = 0 → z.1 = 0) ∧ (z.2.1 ≠ 0 → z.1 ∈ c.take i ∧ val vs z.1 = 0) ∧ (z.2.1 = 1 → ∀ k ∈ c.take i, val vs k ≠ 2 → k = z.1) ∧
    (2 ≤ z.2.1 → ∃ j ∈ c.take i, ∃ k ∈ c.take i, j ≠ k ∧ val vs j ≠ 2 ∧ val vs k ≠ 2)) ⟨rfl, by simp, by simp, by simp, by simp, by simp, by simp, by simp, by simp⟩ fun i z hi hI => ?_
  obtain ⟨one, many, j⟩ := z
  obtain ⟨rfl, m0, m1, i1, i2, i3, i4, i5, i6⟩ := hI
  dsimp only at m0 m1 i2 i3 i4 i5 i6
  unfold S.skolemref1_Assign_Clause.b0
  dsimp only
  repeat' (with_reducible refine W.len (by assumption) ?_)
  (with_reducible refine W.cnd (fun hc => ?_) (fun hc => ?_) <;> (try simp only [q1, q2, q3, q4, q5, q6, q7, q8, q9, q10, q11, q12, q13, q14, q15, q16, q17, q18, q19, q20, q21, q22, q23, q24, q25, q26, q27, q28, q29, q30, Kd.ty] at hc) <;> (try (exfalso; omega)))
  · obtain ⟨a, ha⟩ : ∃ a, c[i]? = some a := ⟨_, List.getElem?_eq_getElem (by omega)⟩
    have hma := hin a (List.mem_of_getElem? ha)
    have ht : c.take (i + 1) = c.take i ++ [a] := by rw [List.take_add_one, ha]; rfl
    have hall : ∀ P : Int → Prop, (∀ k ∈ c.take (i + 1), P k) ↔ (∀ k ∈ c.take i, P k) ∧ P a := fun P => by
      rw [ht]; simp only [List.mem_append, List.mem_singleton]
      exact ⟨fun h => ⟨fun k hk => h k (.inl hk), h a (.inr rfl)⟩, fun h k hk => hk.elim (h.1 k) fun e => e ▸ h.2⟩
    have hmem : ∀ {k}, k ∈ c.take i → k ∈ c.take (i + 1) := fun hk => by rw [ht]; exact List.mem_append.2 (.inl hk)
    have hmea : a ∈ c.take (i + 1) := by rw [ht]; simp
    repeat' (with_reducible (first | refine W.bind ?_ | refine W.ixIc (by assumption) (by assumption) ?_))
    refine W.to (refValue_eq h1 h2 hv hl hb hma.1) ?_
    repeat' (with_reducible refine W.ret ?_)
    rcases val_ok hv a with ea | ea | ea
    · refine W.condF (by rw [ea]; rfl) ?_
      refine W.condT (by rw [ea]; rfl) ?_
      repeat' (with_reducible (first | refine W.bind ?_ | refine W.ixIc (by assumption) (by assumption) ?_))
      have wm : IntKind.i64.wrap (many + 1) = many + 1 := by rw [wrapS] <;> omega
      refine W.mono (P := fun r => (a ≠ one ∧ r = many + 1) ∨ (a = one ∧ r = many)) ?_ fun r hr => ?_
      · (with_reducible refine W.cnd (fun hq => ?_) (fun hq => ?_) <;> (try simp only [q1, q2, q3, q4, q5, q6, q7, q8, q9, q10, q11, q12, q13, q14, q15, q16, q17, q18, q19, q20, q21, q22, q23, q24, q25, q26, q27, q28, q29, q30, Kd.ty] at hq) <;> (try (exfalso; omega)))
        · repeat' (with_reducible refine W.ret ?_)
          exact .inl ⟨hq, wm⟩
        · repeat' (with_reducible refine W.ret ?_)
          exact .inr ⟨hq, rfl⟩
      · repeat' (with_reducible (first | refine W.nextP ?_ | refine W.ret ?_ | refine W.ixIc (by assumption) (by assumption) ?_))
        have hn0 : ¬ ∀ k ∈ c.take (i + 1), val vs k = 2 := fun e => by have := e a hmea; omega
        have hi1 : ∀ k ∈ c.take (i + 1), val vs k ≠ 1 := (hall _).2 ⟨i1, by omega⟩
        rcases hr with ⟨hne, rfl⟩ | ⟨rfl, rfl⟩
        · refine ⟨by omega, sk, by dsimp only; omega, by dsimp only; omega, hi1, ⟨fun e => by dsimp only at e; omega, fun e => absurd e hn0⟩, fun e => by dsimp only at e; omega, fun _ => ⟨hmea, ea⟩, fun e k hk hk2 => ?_, fun e => ?_⟩
          · dsimp only at e ⊢
            have hm0 : many = 0 := by omega
            rw [ht] at hk
            rcases List.mem_append.1 hk with hk | hk
            · exact absurd (i2.1 hm0 k hk) hk2
            · simpa using hk
          · dsimp only at e
            obtain ⟨b1, b2⟩ := i4 (by omega)
            exact ⟨one, hmem b1, a, hmea, fun e => hne e.symm, by omega, by omega⟩
        · have hm0 : r ≠ 0 := fun e => hma.2 (i3 e)
          refine ⟨by omega, sk, m0, by dsimp only; omega, hi1, ⟨fun e => absurd e hm0, fun e => absurd e hn0⟩, fun e => absurd e hm0, fun _ => ⟨hmea, ea⟩, fun e k hk hk2 => ?_, fun e => ?_⟩
          · rw [ht] at hk
            rcases List.mem_append.1 hk with hk | hk
            · exact i5 e k hk hk2
            · simpa using hk
          · obtain ⟨u, hu, v, hv', b⟩ := i6 e
            exact ⟨u, hmem hu, v, hmem hv', b⟩
    · refine W.condT (by rw [ea]; rfl) ?_
      repeat' (with_reducible (first | refine W.stopP ?_ | refine W.ret ?_))
      dsimp only
      refine ⟨⟨fun e => absurd e (by decide), fun e => by have := e a (List.mem_of_getElem? ha); omega⟩, fun _ e => absurd rfl e, fun _ _ => .inl ⟨a, List.mem_of_getElem? ha, ea⟩⟩
    · refine W.condF (by rw [ea]; rfl) ?_
      refine W.condF (by rw [ea]; rfl) ?_
      repeat' (with_reducible (first | refine W.nextP ?_ | refine W.ret ?_))
      refine ⟨by omega, sk, m0, by dsimp only; omega, (hall _).2 ⟨i1, by omega⟩, ?_, i3, fun e => ⟨hmem (i4 e).1, (i4 e).2⟩, fun e k hk hk2 => ?_, fun e => ?_⟩
      · dsimp only
        rw [hall]; exact ⟨fun e => ⟨i2.1 e, ea⟩, fun e => i2.2 e.1⟩
      · rw [ht] at hk
        rcases List.mem_append.1 hk with hk | hk
        · exact i5 e k hk hk2
        · have : k = a := by simpa using hk
          subst this; exact absurd ea hk2
      · obtain ⟨u, hu, v, hv', b⟩ := i6 e
        exact ⟨u, hmem hu, v, hmem hv', b⟩
  · repeat' (with_reducible refine W.stopP ?_)
    rw [List.take_of_length_le (by omega)] at i1 i2 i4 i5 i6
    (with_reducible refine W.cnd (fun h0 => ?_) (fun h0 => ?_) <;> (try simp only [q1, q2, q3, q4, q5, q6, q7, q8, q9, q10, q11, q12, q13, q14, q15, q16, q17, q18, q19, q20, q21, q22, q23, q24, q25, q26, q27, q28, q29, q30, Kd.ty] at h0) <;> (try (exfalso; omega)))
    · repeat' (with_reducible refine W.ret ?_)
      exact ⟨⟨fun _ => i2.1 h0, fun _ => rfl⟩, fun e => absurd rfl e, fun e => absurd rfl e⟩
    · have hn2 : ¬ ∀ k ∈ c, val vs k = 2 := fun e => h0 (i2.2 e)
      obtain ⟨b1, b2⟩ := i4 h0
      refine W.bind ?_
      (with_reducible refine W.cnd (fun hm => ?_) (fun hm => ?_) <;> (try simp only [q1, q2, q3, q4, q5, q6, q7, q8, q9, q10, q11, q12, q13, q14, q15, q16, q17, q18, q19, q20, q21, q22, q23, q24, q25, q26, q27, q28, q29, q30, Kd.ty] at hm) <;> (try (exfalso; omega)))
      · repeat' (with_reducible refine W.ret ?_)
        refine ⟨⟨fun e => absurd e (by decide), fun e => absurd e hn2⟩, fun _ e => absurd rfl e, fun _ _ => .inr (i6 (by omega))⟩
      · repeat' (with_reducible refine W.ret ?_)
        refine ⟨⟨fun e => absurd (show (0 : Int) = 2 from e) (by decide), fun e => absurd e hn2⟩, fun _ _ => ⟨b1, b2, fun k hk hne => Classical.byContradiction fun h => hne (i5 (by omega) k hk h)⟩, fun _ e => absurd e (hin _ b1).2⟩

/-! ### Closure -/
section
variable {vars : Nat} {C : List (List Int)} {s vs c : List Int}
theorem good_of {r : Int × Int} (hok : Vok vs) (hr : ClW vs c r) (h2 : r.1 ≠ 2) (h0 : r.2 = 0) : GP vs (fun l => val vs l = 1) c := by
  have hP2 : ∀ k, val vs (-k) = 1 → val vs k = 2 := fun k hk => (val_neg1 hok).1 hk
  refine ⟨fun l0 hl0 hk => ?_, fun hk => h2 (hr.bad.2 fun k hkc => hP2 k (hk k hkc))⟩
  rcases hr.many h2 h0 with ⟨k, hkc, hk1⟩ | ⟨j, hj, k, hkc, hne, h3, h4⟩
  · by_cases e : k = l0
    · rw [← e]; exact hk1
    · have := hP2 k (hk k hkc e); omega
  · exfalso
    by_cases e : j = l0
    · exact h4 (hP2 k (hk k hkc fun e2 => hne (e.trans e2.symm)))
    · exact h3 (hP2 j (hk j hj e))
/-- Values that all follow. -/
structure Snd (vars : Nat) (C : List (List Int)) (s vs : List Int) : Prop where
  ok : Vok vs
  len : vs.length = vars + 1
  snd : ∀ l, val vs l = 1 → Der C s l
theorem Snd.cin (h : Snd vars C s vs) : Cin vars C s vs [] (fun l => val vs l = 1) (zeros vs) := ⟨h.ok, h.len, h.snd, fun l hl => .inl hl, fun l hl => (by cases hl), fun l hl => hl, Nat.le_refl _⟩
theorem Snd.set (h : Snd vars C s vs) {l : Int} (h0 : l ≠ 0) (hl : l.natAbs ≤ vars) (hv : val vs l ≠ 2) (hd : Der C s l) : Snd vars C s (setV vs l) ∧ Vle vs (setV vs l) ∧ val (setV vs l) l = 1 := by
  have hlt : l.natAbs < vs.length := by rw [h.len]; omega
  have hs := val_set h0 hlt
  refine ⟨⟨h.ok.set l, by rw [setV_len, h.len], fun k hk => ?_⟩, fun k hk => ?_, by rw [hs, if_pos rfl]⟩
  · rw [hs] at hk
    split at hk
    · rename_i e; rw [e]; exact hd
    · split at hk
      · cases hk
      · exact h.snd k hk
  · rw [hs]
    split
    · rfl
    · split
      · rename_i e; subst e
        exact absurd ((val_neg1 h.ok).1 hk) hv
      · exact hk
end
section
variable {T : Tg} {l vars : Nat} {x xC : AVal} {C : List (List Int)} {s : List Int}
theorem refStart_w {σ : Heap} {vs : List Int} {y p2 : AVal} (h : RA σ T l x vs) (hn : Tn σ T) (hS : Snd vars C s vs) (hvl : vars ≤ 4000) (hy : SlV .int (σ.at T 0) s y) (hs : ∀ k ∈ s, k ≠ 0 ∧ k.natAbs ≤ vars) (hsl : s.length ≤ 1000000) :
    W (loopW (S.skolemref20_Closure.b0 p2 y (.ptr l 0)) 0 σ) fun r => Hop (only 7) σ T r.2 T ∧ ((r.1 = .inr (.nils, false) ∧ Conf C s) ∨ (r.1 = .inl () ∧ ∃ vs', RA r.2 T l x vs' ∧ Snd vars C s vs' ∧ ∀ k ∈ s, val vs' k = 1)) := by
  have hy0 := hy
  refine W.loop s.length (fun i (z : Int) τ => z = (i : Int) ∧ Hop (only 7) σ T τ T ∧ ∃ vs', RA τ T l x vs' ∧ Snd vars C s vs' ∧ ∀ k ∈ s.take i, val vs' k = 1) ⟨rfl, Hop.refl hn, vs, h, hS, by simp⟩ fun i z τ hi hI => ?_
  obtain ⟨rfl, H, vs', hR, hS, hk⟩ := hI
  have hy := hy0.hop H
  unfold S.skolemref20_Closure.b0
  repeat' (with_reducible refine W.len (by assumption) ?_)
  (with_reducible refine W.cnd (fun hc => ?_) (fun hc => ?_) <;> (try simp only [q1, q2, q3, q4, q5, q6, q7, q8, q9, q10, q11, q12, q13, q14, q15, q16, q17, q18, q19, q20, q21, q22, q23, q24, q25, q26, q27, q28, q29, q30, Kd.ty] at hc) <;> (try (exfalso; omega)))
  · obtain ⟨a, ha⟩ : ∃ a, s[i]? = some a := ⟨_, List.getElem?_eq_getElem (by omega)⟩
    have hma := List.mem_of_getElem? ha
    repeat' (with_reducible (first | refine W.bind ?_ | refine W.ixIc (SlV.up (by assumption)) (by assumption) ?_))
    refine W.mono (refSet_w hR H.tn hS.ok hS.len hvl (hs a hma).1 (hs a hma).2) fun r hr => ?_
    rcases hr with ⟨e, rfl⟩ | ⟨e, e2, H2, hR2⟩
    · refine W.condT rfl ?_
      repeat' (with_reducible refine W.stop ?_)
      exact ⟨H, .inl ⟨rfl, hS.cin.conf2 (.start hma) e⟩⟩
    · obtain ⟨b, τ2⟩ := r
      dsimp only at e2 H2 hR2 ⊢
      subst e2
      obtain ⟨hS2, hV, hv1⟩ := hS.set (hs a hma).1 (hs a hma).2 e (.start hma)
      refine W.condF rfl ?_
      repeat' (with_reducible refine W.next ?_)
      refine ⟨by omega, sk, H.trans H2, _, hR2, hS2, fun k hk2 => ?_⟩
      rw [List.take_add_one, ha] at hk2
      rcases List.mem_append.1 hk2 with hk2 | hk2
      · exact hV k (hk k hk2)
      · have : k = a := by simpa using hk2
        rw [this]; exact hv1
  · repeat' (with_reducible refine W.stop ?_)
    rw [List.take_of_length_le (by omega)] at hk
    exact ⟨H, .inr ⟨rfl, vs', hR, hS, hk⟩⟩
/-- One pass over all clauses. -/
theorem refPass_w {σ : Heap} {vs : List Int} (h : RA σ T l x vs) (hn : Tn σ T) (hS : Snd vars C s vs) (hvl : vars ≤ 4000) (hC : SlV vIs (σ.at T 0) C xC) (hR : ∀ c ∈ C, rightC vars c) (hl : C.length ≤ 1000000) (hll : ∀ c ∈ C, c.length ≤ 1000000) (hs : ∀ k ∈ s, val vs k = 1) :
    W (loopW (S.skolemref20_Closure.b1 xC (.ptr l 0)) (false, 0) σ) fun r => Hop (only 7) σ T r.2 T ∧ ((r.1 = .inr (.nils, false) ∧ Conf C s) ∨ (r.1 = .inl false ∧ RA r.2 T l x vs ∧ ¬ Conf C s) ∨ (r.1 = .inl true ∧ ∃ vs', RA r.2 T l x vs' ∧ Snd vars C s vs' ∧ zeros vs' < zeros vs ∧ ∀ k ∈ s, val vs' k = 1)) := by
  have hC0 := hC
  refine W.loop C.length (fun i (z : Bool × Int) τ => z.2 = (i : Int) ∧ Hop (only 7) σ T τ T ∧ ∃ vs', RA τ T l x vs' ∧ Snd vars C s vs' ∧ (∀ k ∈ s, val vs' k = 1) ∧ ((z.1 = false ∧ vs' = vs ∧ ∀ c ∈ C.take i, GP vs (fun l => val vs l = 1) c) ∨ (z.1 = true ∧ zeros vs' < zeros vs))) ⟨rfl, Hop.refl hn, vs, h, hS, hs, .inl ⟨rfl, rfl, by simp⟩⟩ fun i z τ hi hI => ?_
  obtain ⟨more, j⟩ := z
  obtain ⟨rfl, H, vs', hRA, hS', hs', hm⟩ := hI
  dsimp only at hm
  have hC := hC0.hop H
  unfold S.skolemref20_Closure.b1
  dsimp only
  refine W.len hC.up ?_
  (with_reducible refine W.cnd (fun hc => ?_) (fun hc => ?_) <;> (try simp only [q1, q2, q3, q4, q5, q6, q7, q8, q9, q10, q11, q12, q13, q14, q15, q16, q17, q18, q19, q20, q21, q22, q23, q24, q25, q26, q27, q28, q29, q30, Kd.ty] at hc) <;> (try (exfalso; omega)))
  · refine W.bind ?_
    refine W.ixLS hC at_le (by omega) fun c w hc hw => ?_
    have hmc := List.mem_of_getElem? hc
    have hRc := hR c hmc
    have ht : C.take (i + 1) = C.take i ++ [c] := by rw [List.take_add_one, hc]; rfl
    refine W.bind ?_
    refine W.mono (refClause_w hRA.loc.up hRA.own.slT hS'.ok (by rw [hS'.len]; omega) (by rw [hS'.len]; omega) hw.up (fun k hk => ⟨by have := hRc k hk; simp [inB]; omega, (hRc k hk).1⟩) (hll c hmc)) fun r hr => ?_
    obtain ⟨a, b⟩ := r
    (with_reducible refine W.cnd (fun h2 => ?_) (fun h2 => ?_) <;> (try simp only [q1, q2, q3, q4, q5, q6, q7, q8, q9, q10, q11, q12, q13, q14, q15, q16, q17, q18, q19, q20, q21, q22, q23, q24, q25, q26, q27, q28, q29, q30, Kd.ty] at h2) <;> (try (exfalso; omega)))
    · repeat' (with_reducible (first | refine W.stop ?_ | refine W.ret ?_))
      exact ⟨H, .inl ⟨rfl, hS'.cin.confC hmc (hr.bad.1 h2)⟩⟩
    · (with_reducible refine W.cnd (fun h0 => ?_) (fun h0 => ?_) <;> (try simp only [q1, q2, q3, q4, q5, q6, q7, q8, q9, q10, q11, q12, q13, q14, q15, q16, q17, q18, q19, q20, q21, q22, q23, q24, q25, q26, q27, q28, q29, q30, Kd.ty] at h0) <;> (try (exfalso; omega)))
      · obtain ⟨z1, z2, z3⟩ := hr.one h2 h0
        dsimp only at z1 z2 z3
        have hb := hRc b z1
        refine W.bind ?_
        refine W.mono (refSet_w hRA H.tn hS'.ok hS'.len hvl h0 (by omega)) fun r hr2 => ?_
        rcases hr2 with ⟨e, _⟩ | ⟨e, e2, H2, hR2⟩
        · exact absurd (z2.symm.trans e) (by decide)
        · obtain ⟨b', τ2⟩ := r
          dsimp only at e2 H2 hR2 ⊢
          subst e2
          obtain ⟨hS2, hV, hv1⟩ := hS'.set h0 (by omega) e (hS'.cin.unit hmc z1 z3)
          have hz := zeros_setV hS'.ok h0 (by rw [hS'.len]; omega) z2
          refine W.condF rfl ?_
          repeat' (with_reducible (first | refine W.next ?_ | refine W.ret ?_))
          refine ⟨by omega, sk, H.trans H2, _, hR2, hS2, fun k hk => hV k (hs' k hk), .inr ⟨rfl, ?_⟩⟩
          rcases hm with ⟨_, rfl, _⟩ | ⟨_, hm⟩ <;> omega
      · repeat' (with_reducible (first | refine W.next ?_ | refine W.ret ?_))
        refine ⟨by omega, sk, H, vs', hRA, hS', hs', ?_⟩
        rcases hm with ⟨e, rfl, hm⟩ | ⟨e, hm⟩
        · refine .inl ⟨e, rfl, fun d hd => ?_⟩
          rw [ht] at hd
          rcases List.mem_append.1 hd with hd | hd
          · exact hm d hd
          · rw [List.mem_singleton.1 hd]; exact good_of hS'.ok hr h2 h0
        · exact .inr ⟨e, hm⟩
  · repeat' (with_reducible refine W.stop ?_)
    rcases hm with ⟨rfl, rfl, hm⟩ | ⟨rfl, hm⟩
    · rw [List.take_of_length_le (by omega)] at hm
      exact ⟨H, .inr (.inl ⟨rfl, hRA, hS'.cin.done hm hs'⟩)⟩
    · exact ⟨H, .inr (.inr ⟨rfl, vs', hRA, hS', hm, hs'⟩)⟩
theorem refKnown_w {σ : Heap} {vs : List Int} (h1 : Loc σ l [x]) (h2 : SlV .int σ vs x) (hb : vs.length ≤ 100000) (hb0 : 1 ≤ vs.length) : W (S.skolemref1_Assign_Known (.ptr l 0) σ) fun r => Hle σ r.2 := by
  unfold S.skolemref1_Assign_Known
  refine W.bind ?_
  refine W.loop (vs.length - 1) (fun i (y : AVal × Int) τ => y.2 = (i : Int) + 1 ∧ Hle σ τ ∧ ∃ ks : List Int, ks.length ≤ 2 * i ∧ Acc .int σ.next τ ks y.1) ⟨rfl, Hle.refl _, [], by simp, Acc.nil _ _ _⟩ fun i y τ hi hI => ?_
  obtain ⟨y, j⟩ := y
  obtain ⟨rfl, L, ks, hks, hA⟩ := hI
  dsimp only at hA ⊢
  have h1' := h1.mono L
  have h2' := h2.mono L
  unfold S.skolemref1_Assign_Known.b0
  dsimp only
  repeat' (with_reducible (first | refine W.asV ?_ | refine W.fldp ?_ | refine W.len (by assumption) ?_ | refine W.ldL (by assumption) (by with_unfolding_all rfl) ?_ | refine W.nck ?_))
  (with_reducible refine W.cnd (fun hc => ?_) (fun hc => ?_) <;> (try simp only [q1, q2, q3, q4, q5, q6, q7, q8, q9, q10, q11, q12, q13, q14, q15, q16, q17, q18, q19, q20, q21, q22, q23, q24, q25, q26, q27, q28, q29, q30, Kd.ty] at hc) <;> (try (exfalso; omega)))
  · obtain ⟨a, ha⟩ : ∃ a, vs[i + 1]? = some a := ⟨_, List.getElem?_eq_getElem (by omega)⟩
    repeat' (with_reducible (first | refine W.bind ?_ | refine W.asV ?_ | refine W.fldp ?_ | refine W.ldL (by assumption) (by with_unfolding_all rfl) ?_ | refine W.nck ?_))
    refine W.ixI h2' (i := (i : Int) + 1) (a := a) (by rw [show ((i : Int) + 1).toNat = i + 1 by omega]; exact ha) (by omega) ?_
    refine W.call (P := fun r => Hle σ r.2 ∧ ∃ ks' : List Int, ks'.length ≤ 2 * i + 1 ∧ Acc .int σ.next r.2 ks' r.1) ?_ fun r hr => ?_
    · (with_reducible refine W.cnd (fun hq => ?_) (fun hq => ?_) <;> (try simp only [q1, q2, q3, q4, q5, q6, q7, q8, q9, q10, q11, q12, q13, q14, q15, q16, q17, q18, q19, q20, q21, q22, q23, q24, q25, q26, q27, q28, q29, q30, Kd.ty] at hq) <;> (try (exfalso; omega)))
      · refine W.pushI hA L (by omega) (by omega) fun y2 τ2 L2 hA2 _ => ?_
        repeat' (with_reducible refine W.ret ?_)
        exact ⟨L2, _, by simp; omega, hA2⟩
      · repeat' (with_reducible refine W.ret ?_)
        exact ⟨L, ks, by omega, hA⟩
    · obtain ⟨y2, τ2⟩ := r
      obtain ⟨L2, ks2, hks2, hA2⟩ := hr
      dsimp only at L2 hA2 ⊢
      have h3 := h1.mono L2
      have h4 := h2.mono L2
      repeat' (with_reducible (first | refine W.asV ?_ | refine W.fldp ?_ | refine W.ldL (by assumption) (by with_unfolding_all rfl) ?_ | refine W.nck ?_))
      refine W.ixI h4 (i := (i : Int) + 1) (a := a) (by rw [show ((i : Int) + 1).toNat = i + 1 by omega]; exact ha) (by omega) ?_
      have w1 : IntKind.i64.wrap ((i : Int) + 1 + 1) = ((i + 1 : Nat) : Int) + 1 := by rw [wrapS] <;> omega
      (with_reducible refine W.cnd (fun hq => ?_) (fun hq => ?_) <;> (try simp only [q1, q2, q3, q4, q5, q6, q7, q8, q9, q10, q11, q12, q13, q14, q15, q16, q17, q18, q19, q20, q21, q22, q23, q24, q25, q26, q27, q28, q29, q30, Kd.ty] at hq) <;> (try (exfalso; omega)))
      · refine W.pushI hA2 L2 (by omega) (by omega) fun y3 τ3 L3 hA3 _ => ?_
        repeat' (with_reducible (first | refine W.next ?_ | refine W.ret ?_))
        exact ⟨by omega, w1, L3, _, by simp; omega, hA3⟩
      · repeat' (with_reducible (first | refine W.next ?_ | refine W.ret ?_))
        exact ⟨by omega, w1, L2, ks2, by omega, hA2⟩
  · repeat' (with_reducible (first | refine W.stop ?_ | refine W.ret ?_))
    exact L
theorem refClosure_w {σ : Heap} {y : AVal} (hvl : vars ≤ 4000) (hC : SlV vIs σ C xC) (hy : SlV .int σ s y) (hR : ∀ c ∈ C, rightC vars c) (hCl : C.length ≤ 1000000) (hll : ∀ c ∈ C, c.length ≤ 1000000) (hs : ∀ k ∈ s, k ≠ 0 ∧ k.natAbs ≤ vars) (hsl : s.length ≤ 1000000) :
    W (S.skolemref20_Closure (vars : Int) xC y σ) fun r => (r.1.2 = true ↔ ¬ Conf C s) ∧ Hle σ r.2 := by
  have hn : Tn σ Tz := Tn.tz
  have hC : SlV vIs (σ.at Tz 0) C xC := by rw [at_tz]; exact hC
  have hy : SlV .int (σ.at Tz 0) s y := by rw [at_tz]; exact hy
  unfold S.skolemref20_Closure S.skolemref1_NewAssign
  have e1 : (if 4000 < (if 0 > (vars : Int) then 0 else (vars : Int)) then 4000 else (if 0 > (vars : Int) then 0 else (vars : Int))) = (vars : Int) := by
    rw [if_neg (c := 0 > (vars : Int)) (by omega), if_neg (by omega)]
  rw [e1, sk]
  refine W.bind ?_
  have hmk : ∀ {R : Type} (K : AVal → Heap → Option R), mkS σ 1 8 [AVal.int .i64 0] ((vars + 1 : Nat) : Int) ((vars + 1 : Nat) : Int) K = K (.sl σ.next 0 (vars + 1) none) (σ.new (.cells .rw 1 (rep (vars + 1) [AVal.int .i64 0]))) := fun K => by
    simp only [mkS, newK]
    rw [if_pos ⟨by omega, by omega, by omega, by omega⟩, Int.toNat_natCast]
  refine W.to (hmk _) ?_
  have hrep : ∀ n : Nat, rep n [AVal.int .i64 0] = (List.replicate n (0 : Int)).map (AVal.int .i64) := fun n => by
    induction n with
    | zero => rfl
    | succ n ih => rw [rep, ih, List.replicate_succ]; rfl
  rw [hrep]
  have H1 : Hop (only 7) σ Tz (σ.new (.cells .rw 1 ((List.replicate (vars + 1) (0 : Int)).map (AVal.int .i64)))) (Tg.upd Tz σ.next 7) := hop_new hn
  have hO : Own .int ((σ.new (.cells .rw 1 ((List.replicate (vars + 1) (0 : Int)).map (AVal.int .i64)))).at (Tg.upd Tz σ.next 7) 7) (List.replicate (vars + 1) 0) (.sl σ.next 0 (vars + 1) none) := .inr ⟨σ.next, 0, none, _, by simp, Nat.lt_succ_self _, at_of upd_self (by rw [hnew_get, if_pos rfl]; rfl), (fun k e => by cases e), by simp [Vw.int], fun i a hi => by
    show _ = _
    obtain ⟨h8, h9⟩ := List.getElem?_eq_some_iff.1 hi
    simp only [Vw.int, Nat.mul_one, Nat.zero_add]
    rw [List.drop_eq_getElem_cons (by simpa using h8)]
    simp [← h9]⟩
  generalize (σ.new (.cells .rw 1 ((List.replicate (vars + 1) (0 : Int)).map (AVal.int .i64)))) = τ1 at *
  generalize Tg.upd Tz σ.next 7 = T1 at *
  have HH : Hop clJ σ Tz τ1 T1 := H1.sub fun i hi => by simp at hi ⊢; omega
  replace hC := hC.hop H1
  replace hy := hy.hop H1
  replace hn := H1.tn
  repeat' (with_reducible refine W.scSl ?_)
  refine W.newT 6 hn fun l τ2 T2 hl H2 hl2 hnτ2 => ?_
  replace hC := hC.hop H2
  replace hy := hy.hop H2
  replace hO := hO.hop H2
  replace HH := HH.hop H2
  replace hn := H2.tn
  repeat' (with_reducible (first | refine W.ret ?_ | refine W.bind ?_))
  have hS0 : Snd vars C s (List.replicate (vars + 1) 0) := ⟨Vok_zero _, by simp, fun k hk => by rw [val_zero] at hk; cases hk⟩
  refine W.mono (refStart_w ⟨hl2, hO⟩ hn hS0 hvl hy hs hsl) fun r hr => ?_
  obtain ⟨r, τ3⟩ := r
  obtain ⟨H3, hr⟩ := hr
  dsimp only at H3 hr ⊢
  replace HH := HH.hop H3
  rcases hr with ⟨rfl, hc⟩ | ⟨rfl, vs, hRA, hS, hsv⟩
  · repeat' (with_reducible refine W.ret ?_)
    exact ⟨by simp [hc], hop_hle HH⟩
  replace hC := hC.hop H3
  replace hy := hy.hop H3
  replace hn := H3.tn
  repeat' (with_reducible refine W.bind ?_)
  refine W.mono (P := fun r => (r.1.2 = true ↔ ¬ Conf C s) ∧ Hle σ r.2) ?_ fun r hr => ?_
  · have hC0 := hC
    refine W.loopI (m := zeros vs) (fun m (_ : Unit) τ => ∃ vs', Hop (only 7) τ3 T2 τ T2 ∧ RA τ T2 l _ vs' ∧ Snd vars C s vs' ∧ zeros vs' = m ∧ ∀ k ∈ s, val vs' k = 1) ⟨vs, Hop.refl hn, hRA, hS, rfl, hsv⟩ fun m _ τ hI => ?_
    obtain ⟨vs', H, hRA, hS, rfl, hsv⟩ := hI
    have hC := hC0.hop H
    unfold S.skolemref20_Closure.b2
    refine W.bind ?_
    refine W.mono (refPass_w hRA H.tn hS hvl hC hR hCl hll hsv) fun r hr => ?_
    obtain ⟨r, τ4⟩ := r
    obtain ⟨H4, hr⟩ := hr
    dsimp only at H4 hr ⊢
    rcases hr with ⟨rfl, hc⟩ | ⟨rfl, hRA, hc⟩ | ⟨rfl, vs2, hRA, hS2, hz, hs2⟩
    · repeat' (with_reducible refine W.stop ?_)
      exact ⟨by simp [hc], hop_hle ((HH.hop H).hop H4)⟩
    · dsimp only
      refine W.condT rfl ?_
      refine W.bind ?_
      refine W.mono (refKnown_w hRA.loc.up hRA.own.slT (by rw [hS.len]; omega) (by rw [hS.len]; omega)) fun r hr => ?_
      repeat' (with_reducible refine W.stop ?_)
      exact ⟨by simp [hc], (hop_hle ((HH.hop H).hop H4)).trans hr⟩
    · dsimp only
      refine W.condF rfl ?_
      repeat' (with_reducible refine W.next ?_)
      exact ⟨_, hz, vs2, H.trans H4, hRA, hS2, rfl, hs2⟩
  · repeat' (with_reducible refine W.ret ?_)
    exact hr
end
end Go.Proofs.YtgneblbblihaoaaGreatDoor.A

/- Chains of clauses; DratDrops. -/
namespace Go.Proofs.YtgneblbblihaoaaGreatDoor.A
open Go
theorem chkP_ok {ss : List (Bool × List Int)} (h1 : (litsOf ss).flatten.length ≤ 320000) (h2 : ∀ s ∈ ss, rightC 4000 s.2) : chkP ss = none := by
  unfold chkP
  rw [if_neg (by omega)]
  have : (litsOf ss).findIdx? (badC 4000) = none := by
    rw [List.findIdx?_eq_none_iff]
    intro c hc
    obtain ⟨s, hs, rfl⟩ := List.mem_map.1 hc
    simpa using badC_iff.2 (h2 s hs)
  rw [this]; rfl
section
variable {n a : Nat} (hn : 2 ≤ n) (hn2 : n ≤ 1000)
include hn hn2
end
end Go.Proofs.YtgneblbblihaoaaGreatDoor.A

/- Clauses that are built; DratDrops, plain. -/
namespace Go.Proofs.YtgneblbblihaoaaGreatDoor.A
open Go
/-- Lists, by their values. -/
def AllV (σ : Heap) (T : Tg) (cs : List (List Int)) (ws : List AVal) : Prop := ws.length = cs.length ∧ ∀ (i : Nat) (c : List Int), cs[i]? = some c → ∃ w, ws[i]? = some w ∧ SlV .int (σ.at T 0) c w
section
variable {σ τ : Heap} {T T' : Tg} {I : Nat → Bool} {cs : List (List Int)} {ws : List AVal} {c : List Int} {w : AVal}
theorem AllV.hop (h : AllV σ T cs ws) (H : Hop I σ T τ T') (hI : I 0 = false := by rfl) : AllV τ T' cs ws := ⟨h.1, fun i c hc => (h.2 i c hc).imp fun w hw => ⟨hw.1, hw.2.hop H hI⟩⟩
theorem AllV.hle (h : AllV σ T cs ws) (L : Hle σ τ) : AllV τ T cs ws := ⟨h.1, fun i c hc => (h.2 i c hc).imp fun w hw => ⟨hw.1, hw.2.hle L⟩⟩
theorem AllV.snoc (h : AllV σ T cs ws) (hw : SlV .int (σ.at T 0) c w) : AllV σ T (cs ++ [c]) (ws ++ [w]) := ⟨by simp [h.1], fun i d hd => by
  by_cases hlt : i < cs.length
  · rw [List.getElem?_append_left hlt] at hd
    obtain ⟨u, h1, h2⟩ := h.2 i d hd
    exact ⟨u, by rw [List.getElem?_append_left (by rw [h.1]; exact hlt)]; exact h1, h2⟩
  · have hi : i = cs.length := by
      have := (List.getElem?_eq_some_iff.1 hd).1
      simp at this; omega
    subst hi
    simp at hd; subst hd
    exact ⟨w, by rw [← h.1]; simp, hw⟩⟩
theorem AllV.vIs {x : AVal} (h : AllV σ T cs ws) (hx : SlV vRaw σ ws x) : SlV A.vIs σ cs x := slIs_of hx h.1 fun i c hc => (h.2 i c hc).imp fun w hw => ⟨hw.1, hw.2.up⟩
end
end Go.Proofs.YtgneblbblihaoaaGreatDoor.A
