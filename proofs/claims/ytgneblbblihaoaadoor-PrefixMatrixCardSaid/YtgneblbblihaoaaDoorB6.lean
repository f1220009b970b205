/- Regions whose order is open: what the order must keep. -/
import Derived.Test.YtgneblbblihaoaaDoorB5
set_option linter.all false
namespace Go.Proofs.YtgneblbblihaoaaDoor.A
open Go Go.RowKit

abbrev Ld (listed : Array Bool) (j : Nat) : Prop := listed.getD j false = true

def Closed (ops : Array Oper) (listed : Array Bool) : Prop := ∀ j o, ops[j]? = some o → Ld listed j → ∀ e ∈ o.after, Region.binds .any e = true → Ld listed e.on

theorem maskOf_bit {acc : List Nat} {i : Nat} : ∀ (es : List Edge), (maskOf acc es).testBit i = true → ∃ x ∈ es, Region.binds .any x = true ∧ (x.on = i ∨ (acc.getD (acc.length - 1 - x.on) 0).testBit i = true)
  | [], h => by simp [maskOf] at h
  | x :: es, h => by
    have h' : ((bif Region.binds .any x then ((2 ^ x.on ||| acc.getD (acc.length - 1 - x.on) 0) ||| 0) else 0) ||| maskOf acc es).testBit i = true := h
    rw [Nat.testBit_or, Bool.or_eq_true] at h'
    rcases h' with h1 | h1
    · cases hb : Region.binds .any x with
      | false => rw [hb] at h1; simp at h1
      | true =>
        rw [hb] at h1
        simp only [cond_true, Nat.testBit_or, Bool.or_eq_true, Nat.zero_testBit, Bool.false_eq_true, or_false, Nat.testBit_two_pow] at h1
        exact ⟨x, List.mem_cons_self, hb, h1.imp (fun h => by simpa using h) id⟩
    · obtain ⟨y, h2, h3⟩ := maskOf_bit es h1
      exact ⟨y, List.mem_cons_of_mem _ h2, h3⟩

theorem masks_pre : ∀ (os : List Oper) (acc : List Nat) (t : Nat), t < acc.length → (masks os acc).getD t 0 = acc.getD (acc.length - 1 - t) 0
  | [], acc, t, h => by
    simp only [masks, List.getD_eq_getElem?_getD]
    rw [List.getElem?_reverse h]
  | o :: os, acc, t, h => by
    simp only [masks]
    rw [masks_pre os _ t (by simp; omega)]
    simp only [List.length_cons, List.getD_eq_getElem?_getD]
    rw [show acc.length + 1 - 1 - t = (acc.length - 1 - t) + 1 by omega, List.getElem?_cons_succ]

theorem masks_spec : ∀ (os : List Oper) (acc : List Nat) (i : Nat) (o : Oper), os[i]? = some o →
    ∃ acc' : List Nat, acc'.length = acc.length + i ∧ (masks os acc).getD (acc.length + i) 0 = maskOf acc' o.after.toList ∧ ∀ t, t < acc'.length → (masks os acc).getD t 0 = acc'.getD (acc'.length - 1 - t) 0
  | [], acc, i, o, h => by simp at h
  | x :: os, acc, 0, o, h => by
    simp at h; subst h
    refine ⟨acc, rfl, ?_, fun t ht => masks_pre _ _ t ht⟩
    simp only [masks, Nat.add_zero]
    rw [masks_pre os _ acc.length (by simp)]
    simp
  | x :: os, acc, i + 1, o, h => by
    obtain ⟨acc', h1, h2, h3⟩ := masks_spec os (maskOf acc x.after.toList :: acc) i o (by simpa using h)
    simp only [List.length_cons] at h1 h2
    exact ⟨acc', by omega, by simp only [masks]; rw [← h2]; congr 1; omega, fun t ht => by simp only [masks]; exact h3 t ht⟩

section
variable {ops : Array Oper} (hback : ∀ (j : Nat) (o : Oper), ops[j]? = some o → ∀ e ∈ o.after, Region.binds .any e = true → e.on < j)
include hback

theorem ahead_step {i j : Nat} {o : Oper} (ho : ops[j]? = some o) (h : ahead (masks ops.toList []) i j = true) : ∃ x ∈ o.after, Region.binds .any x = true ∧ (x.on = i ∨ ahead (masks ops.toList []) i x.on = true) := by
  obtain ⟨acc', h1, h2, h3⟩ := masks_spec ops.toList [] j o (by simpa using ho)
  simp only [List.length_nil, Nat.zero_add] at h1 h2
  unfold ahead at h
  rw [h2] at h
  obtain ⟨x, h4, h5, h6⟩ := maskOf_bit _ h
  have hx : x ∈ o.after := by simpa using h4
  refine ⟨x, hx, h5, h6.imp id fun h7 => ?_⟩
  unfold ahead
  rw [h3 x.on (by have := hback j o ho x hx h5; omega)]
  exact h7

theorem ahead_ld {listed : Array Bool} (hc : Closed ops listed) : ∀ (j i : Nat) (o : Oper), ops[j]? = some o → ahead (masks ops.toList []) i j = true → (∀ e ∈ o.after, Region.binds .any e = true → Ld listed e.on) → Ld listed i := by
  intro j
  induction j using Nat.strongRecOn with
  | ind j ih =>
    intro i o ho h hl
    obtain ⟨x, h1, h2, h3⟩ := ahead_step hback ho h
    rcases h3 with h3 | h3
    · rw [← h3]; exact hl x h1 h2
    · have hlt := hback j o ho x h1 h2
      have hj := (Array.getElem?_eq_some_iff.1 ho).1
      obtain ⟨ox, hox⟩ : ∃ ox, ops[x.on]? = some ox := ⟨_, Array.getElem?_eq_getElem (by omega)⟩
      exact ih x.on hlt i ox hox h3 (fun e he hb => hc x.on ox hox (hl x h1 h2) e he hb)

/-- What changes the heap waits for all that changes it, or makes an object, ahead of it. -/
theorem chain_spec {C : Cx} : ∀ (os : List Oper) (i : Nat) (ns : List Nat), chainOk C.calls (masks ops.toList []) os i ns = true → (∀ k : Nat, os[k]? = ops[i + k]?) →
    (∀ a oa, a < i → ops[a]? = some oa → pureOp C.calls oa = false → ∃ b ∈ ns, ∀ listed, Closed ops listed → Ld listed b → Ld listed a) →
    ∀ j oj, i ≤ j → ops[j]? = some oj → noisy C oj = true → ∀ a oa, a < j → ops[a]? = some oa → pureOp C.calls oa = false → ∀ listed, Closed ops listed → (∀ e ∈ oj.after, Region.binds .any e = true → Ld listed e.on) → Ld listed a
  | [], i, ns, _, hos, _, j, oj, hij, hj, _, a, oa, _, _, _, listed, _, _ => by
    have := hos (j - i)
    rw [show i + (j - i) = j by omega, hj] at this
    simp at this
  | o :: os, i, ns, hch, hos, hns, j, oj, hij, hj, hn, a, oa, haj, ha, hpa, listed, hc, hl => by
    have ho : ops[i]? = some o := by have := hos 0; simpa using this.symm
    have hrest : ∀ k : Nat, os[k]? = ops[i + 1 + k]? := fun k => by have := hos (k + 1); rw [show i + 1 + k = i + (k + 1) by omega]; simpa using this
    simp only [chainOk] at hch
    cases hp : pureOp C.calls o with
    | true =>
      rw [hp] at hch
      refine chain_spec os (i + 1) ns hch hrest (fun b ob hb hob hpb => ?_) j oj ?_ hj hn a oa haj ha hpa listed hc hl
      · rcases Nat.lt_or_ge b i with h | h
        · exact hns b ob h hob hpb
        · have : b = i := by omega
          subst this; rw [ho] at hob; cases hob; rw [hp] at hpb; cases hpb
      · rcases Nat.lt_or_ge i j with h | h
        · exact h
        · have : j = i := by omega
          subst this; rw [ho] at hj; cases hj; simp [noisy, hp] at hn
    | false =>
      rw [hp] at hch
      simp only [cond_false] at hch
      cases hal : allocOp o with
      | true =>
        rw [hal] at hch
        refine chain_spec os (i + 1) (i :: ns) hch hrest (fun b ob hb hob hpb => ?_) j oj ?_ hj hn a oa haj ha hpa listed hc hl
        · rcases Nat.lt_or_ge b i with h | h
          · obtain ⟨c, h1, h2⟩ := hns b ob h hob hpb
            exact ⟨c, List.mem_cons_of_mem _ h1, h2⟩
          · have : b = i := by omega
            subst this; exact ⟨b, List.mem_cons_self, fun _ _ h => h⟩
        · rcases Nat.lt_or_ge i j with h | h
          · exact h
          · have : j = i := by omega
            subst this; rw [ho] at hj; cases hj; simp [noisy, hal] at hn
      | false =>
        rw [hal] at hch
        simp only [cond_false] at hch
        cases hall : (ns.all fun j => ahead (masks ops.toList []) j i) with
        | false => rw [hall] at hch; cases hch
        | true =>
          rw [hall] at hch
          simp only [cond_true] at hch
          have pre : ∀ b ob, b < i → ops[b]? = some ob → pureOp C.calls ob = false → ∀ listed, Closed ops listed → (∀ e ∈ o.after, Region.binds .any e = true → Ld listed e.on) → Ld listed b := fun b ob hb hob hpb listed hc hl => by
            obtain ⟨c, h1, h2⟩ := hns b ob hb hob hpb
            exact h2 listed hc (ahead_ld hback hc i c o ho (List.all_eq_true.1 hall c h1) hl)
          rcases Nat.lt_or_ge i j with h | h
          · refine chain_spec os (i + 1) [i] hch hrest (fun b ob hb hob hpb => ⟨i, by simp, fun listed hc hli => ?_⟩) j oj h hj hn a oa haj ha hpa listed hc hl
            rcases Nat.lt_or_ge b i with h | h
            · exact pre b ob h hob hpb listed hc (fun e he hb => hc i o ho hli e he hb)
            · have : b = i := by omega
              subst this; exact hli
          · have : j = i := by omega
            subst this; rw [ho] at hj; cases hj
            exact pre a oa haj ha hpa listed hc hl
end

theorem lexOk_spec {ops : Array Oper} {x : Oper} {i : Nat} : ∀ (ys : List Oper), lexOk ops x i ys = true → ∀ y ∈ ys, (∃ e ∈ y.after, Region.binds .any e = true ∧ e.on = i) ∨ x.apart ops y = true
  | [], _, y, hy => by simp at hy
  | z :: ys, h, y, hy => by
    simp only [lexOk] at h
    cases hb : (onB z i || x.apart ops z) with
    | false => rw [hb] at h; cases h
    | true =>
      rw [hb] at h
      rcases List.mem_cons.1 hy with e | e
      · subst e
        rw [Bool.or_eq_true] at hb
        refine hb.imp (fun h1 => ?_) id
        simp only [onB, List.any_eq_true, Bool.and_eq_true] at h1
        obtain ⟨e, h2, h3, h4⟩ := h1
        exact ⟨e, by simpa using h2, h3, Nat.eq_of_beq_eq_true h4⟩
      · exact lexOk_spec ys h y e

theorem lexAll_spec {ops : Array Oper} : ∀ (os : List Oper) (i : Nat), lexAll ops os i = true → (∀ k : Nat, os[k]? = ops[i + k]?) →
    (∀ j oj, i ≤ j → ops[j]? = some oj → ∀ e ∈ oj.after, Region.binds .any e = true → e.on < j) ∧
    (∀ a b oa ob, i ≤ a → a < b → ops[a]? = some oa → ops[b]? = some ob → (∃ e ∈ ob.after, Region.binds .any e = true ∧ e.on = a) ∨ oa.apart ops ob = true)
  | [], i, _, hos => by
    have no : ∀ j oj, i ≤ j → ops[j]? ≠ some oj := fun j oj hij hj => by
      have := hos (j - i)
      rw [show i + (j - i) = j by omega, hj] at this
      simp at this
    exact ⟨fun j oj hij hj => absurd hj (no j oj hij), fun a b oa ob hia hab ha => absurd ha (no a oa hia)⟩
  | o :: os, i, h, hos => by
    have ho : ops[i]? = some o := by have := hos 0; simpa using this.symm
    have hrest : ∀ k : Nat, os[k]? = ops[i + 1 + k]? := fun k => by have := hos (k + 1); rw [show i + 1 + k = i + (k + 1) by omega]; simpa using this
    simp only [lexAll] at h
    cases hb : (lexOk ops o i os && (o.after.toList.all fun e => !Region.binds .any e || Nat.blt e.on i)) with
    | false => rw [hb] at h; cases h
    | true =>
      rw [hb] at h
      simp only [cond_true] at h
      rw [Bool.and_eq_true] at hb
      obtain ⟨h1, h2⟩ := lexAll_spec os (i + 1) h hrest
      refine ⟨fun j oj hij hj e he hbe => ?_, fun a b oa ob hia hab ha hbb => ?_⟩
      · rcases Nat.lt_or_ge i j with hlt | hge
        · exact h1 j oj hlt hj e he hbe
        · have : j = i := by omega
          subst this; rw [ho] at hj; cases hj
          have := List.all_eq_true.1 hb.2 e (by simpa using he)
          simp only [hbe, Bool.not_true, Bool.false_or, Nat.blt_eq] at this
          exact this
      · rcases Nat.lt_or_ge i a with hlt | hge
        · exact h2 a b oa ob hlt hab ha hbb
        · have : a = i := by omega
          subst this; rw [ho] at ha; cases ha
          refine lexOk_spec os hb.1 ob ?_
          have := hrest (b - (a + 1))
          rw [show a + 1 + (b - (a + 1)) = b by omega, hbb] at this
          exact List.mem_of_getElem? this

theorem dstNew_spec : ∀ (os : List Oper) (l : List Nat), dstNew os l = true → (∀ (i : Nat) o t, os[i]? = some o → o.dst = some t → t ∉ l) ∧ ∀ (i j : Nat) oi oj t, i < j → os[i]? = some oi → os[j]? = some oj → oi.dst = some t → oj.dst ≠ some t
  | [], l, _ => ⟨fun i o t h => by simp at h, fun i j oi oj t _ h => by simp at h⟩
  | o :: os, l, h => by
    simp only [dstNew] at h
    split at h
    · rename_i t ht
      cases hb : inL l t with
      | true => rw [hb] at h; cases h
      | false =>
        rw [hb] at h
        obtain ⟨h1, h2⟩ := dstNew_spec os (t :: l) h
        have htl : t ∉ l := fun hin => by rw [(inL_spec l t).2 hin] at hb; cases hb
        refine ⟨fun i x s hx hs => ?_, fun i j oi oj s hij hi hj hs => ?_⟩
        · cases i with
          | zero => simp at hx; subst hx; rw [ht] at hs; cases hs; exact htl
          | succ i => exact fun hin => h1 i x s (by simpa using hx) hs (List.mem_cons_of_mem _ hin)
        · cases j with
          | zero => omega
          | succ j =>
            cases i with
            | zero => simp at hi; subst hi; rw [ht] at hs; cases hs; exact fun hx => h1 j oj t (by simpa using hj) hx List.mem_cons_self
            | succ i => exact h2 i j oi oj s (by omega) (by simpa using hi) (by simpa using hj) hs
    · rename_i ht
      obtain ⟨h1, h2⟩ := dstNew_spec os l h
      refine ⟨fun i x s hx hs => ?_, fun i j oi oj s hij hi hj hs => ?_⟩
      · cases i with
        | zero => simp at hx; subst hx; rw [ht] at hs; cases hs
        | succ i => exact h1 i x s (by simpa using hx) hs
      · cases j with
        | zero => omega
        | succ j =>
          cases i with
          | zero => simp at hi; subst hi; rw [ht] at hs; cases hs
          | succ i => exact h2 i j oi oj s (by omega) (by simpa using hi) (by simpa using hj) hs

end Go.Proofs.YtgneblbblihaoaaDoor.A
