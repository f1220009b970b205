/- Which of a heap have the greatest score. -/
import Derived.Test.YtcmaphhcbgdigaaF3
import Derived.Test.YtcmaphhcbgdigaaH0
set_option linter.all false
namespace Go.Proofs.Ytcmaphhcbgdigaa.A

def anc : Nat → Nat → Nat
  | 0, i => i
  | d + 1, i => (anc d i - 1) / 2
theorem anc_le (d i : Nat) : anc d i ≤ i := by
  induction d with
  | zero => exact Nat.le_refl _
  | succ d ih => simp only [anc]; omega
theorem anc_add (a b i : Nat) : anc (a + b) i = anc b (anc a i) := by
  induction b with
  | zero => rfl
  | succ b ih => rw [← Nat.add_assoc]; simp only [anc]; rw [ih]

/-- The places below k whose score is the greatest, as the program goes through them. -/
def lookI (st : HS) : Nat → Nat → List Nat
  | 0, _ => []
  | n + 1, k => if k < st.m ∧ st.sc (st.hs k) = st.sc (st.hs 0) then k :: (lookI st n (2 * k + 1) ++ lookI st n (2 * k + 2)) else []

theorem lookI_mem {st : HS} : ∀ (n k i : Nat), i ∈ lookI st n k → i < st.m ∧ st.sc (st.hs i) = st.sc (st.hs 0) ∧ ∃ d, anc d i = k
  | 0, k, i, h => by cases h
  | n + 1, k, i, h => by
    unfold lookI at h
    split at h
    · rename_i hc
      rcases List.mem_cons.1 h with rfl | h
      · exact ⟨hc.1, hc.2, 0, rfl⟩
      · rcases List.mem_append.1 h with h | h
        · obtain ⟨a, b, d, e⟩ := lookI_mem n _ i h
          exact ⟨a, b, d + 1, by simp only [anc, e]; omega⟩
        · obtain ⟨a, b, d, e⟩ := lookI_mem n _ i h
          exact ⟨a, b, d + 1, by simp only [anc, e]; omega⟩
    · cases h

theorem lookI_nodup (st : HS) : ∀ (n k : Nat), (lookI st n k).Nodup
  | 0, k => List.nodup_nil
  | n + 1, k => by
    unfold lookI
    split
    · rw [List.nodup_cons, List.nodup_append]
      refine ⟨fun h => ?_, lookI_nodup st n _, lookI_nodup st n _, fun a ha b hb hab => ?_⟩
      · rcases List.mem_append.1 h with h | h
        · obtain ⟨_, _, d, e⟩ := lookI_mem n _ k h; have := anc_le d k; omega
        · obtain ⟨_, _, d, e⟩ := lookI_mem n _ k h; have := anc_le d k; omega
      · subst hab
        obtain ⟨_, _, d1, e1⟩ := lookI_mem n _ a ha
        obtain ⟨_, _, d2, e2⟩ := lookI_mem n _ a hb
        rcases Nat.le_total d1 d2 with h | h
        · obtain ⟨x, rfl⟩ := Nat.le.dest h
          rw [anc_add, e1] at e2; have := anc_le x (2 * k + 1); omega
        · obtain ⟨x, rfl⟩ := Nat.le.dest h
          rw [anc_add, e2] at e1
          cases x with
          | zero => simp only [anc] at e1; omega
          | succ x =>
            rw [Nat.add_comm, anc_add] at e1
            have := anc_le x (anc 1 (2 * k + 2)); simp only [anc] at this; simp only [anc] at e1; omega
    · exact List.nodup_nil

theorem lookI_self {st : HS} {n k : Nat} (h : k < st.m) (hs : st.sc (st.hs k) = st.sc (st.hs 0)) : k ∈ lookI st (n + 1) k := by
  unfold lookI; rw [if_pos ⟨h, hs⟩]; exact List.mem_cons_self

theorem lookI_kid {st : HS} : ∀ (n k p i : Nat), st.m ≤ k + n → p ∈ lookI st n k → i < st.m → 0 < i → (i - 1) / 2 = p → st.sc (st.hs i) = st.sc (st.hs 0) → i ∈ lookI st n k
  | 0, k, p, i, _, h, _, _, _, _ => by cases h
  | n + 1, k, p, i, hn, h, hi, h0, hp, hs => by
    unfold lookI at h ⊢
    split at h
    · rename_i hc
      rw [if_pos hc]
      refine List.mem_cons_of_mem _ (List.mem_append.2 ?_)
      rcases List.mem_cons.1 h with rfl | h
      · cases n with
        | zero => omega
        | succ n =>
          rcases (by omega : i = 2 * p + 1 ∨ i = 2 * p + 2) with rfl | rfl
          · exact .inl (lookI_self hi hs)
          · exact .inr (lookI_self hi hs)
      · rcases List.mem_append.1 h with h | h
        · exact .inl (lookI_kid n _ p i (by omega) h hi h0 hp hs)
        · exact .inr (lookI_kid n _ p i (by omega) h hi h0 hp hs)
    · cases h

theorem lookI_all {st : HS} (ho : st.HO) : ∀ (i : Nat), i < st.m → st.sc (st.hs i) = st.sc (st.hs 0) → i ∈ lookI st st.m 0 := by
  intro i
  induction i using Nat.strongRecOn with
  | ind i ih =>
    intro hi hs
    rcases Nat.eq_zero_or_pos i with h0 | h0
    · subst h0
      obtain ⟨n, hn⟩ : ∃ n, st.m = n + 1 := ⟨st.m - 1, by omega⟩
      rw [hn]; exact lookI_self hi rfl
    · have a := nah_sc (ho i h0 hi)
      have b := nah_sc (ho.top ((i - 1) / 2) (by omega))
      exact lookI_kid st.m 0 ((i - 1) / 2) i (by omega) (ih _ (by omega) (by omega) (by omega)) hi h0 rfl hs

/-- Those of the greatest score. -/
def tops (st : HS) : List Nat := (List.range st.N).filter fun v => decide (0 < st.pl v ∧ st.sc v = st.sc (st.hs 0))

theorem nodup_map_on {α β : Type} {f : α → β} : ∀ {l : List α}, l.Nodup → (∀ a ∈ l, ∀ b ∈ l, f a = f b → a = b) → (l.map f).Nodup
  | [], _, _ => List.nodup_nil
  | x :: l, h, hf => by
    rw [List.map_cons, List.nodup_cons]
    rw [List.nodup_cons] at h
    refine ⟨fun hx => ?_, nodup_map_on h.2 fun a ha b hb => hf a (List.mem_cons_of_mem _ ha) b (List.mem_cons_of_mem _ hb)⟩
    obtain ⟨a, ha, he⟩ := List.mem_map.1 hx
    have := hf a (List.mem_cons_of_mem _ ha) x List.mem_cons_self he
    subst this; exact h.1 ha

theorem look_perm {st : HS} (w : st.WF) (ho : st.HO) : ((lookI st st.m 0).map st.hs).Perm (tops st) := by
  rw [List.perm_ext_iff_of_nodup]
  · intro v
    unfold tops
    rw [List.mem_map, List.mem_filter, List.mem_range, decide_eq_true_iff]
    constructor
    · rintro ⟨i, hi, rfl⟩
      obtain ⟨a, b, _⟩ := lookI_mem _ _ _ hi
      have := w.hs i a
      exact ⟨this.2.1, by omega, b⟩
    · rintro ⟨hv, hp, hs⟩
      obtain ⟨i, hi, e, _⟩ := w.in hv hp
      exact ⟨i, lookI_all ho i hi (by rw [e]; exact hs), e⟩
  · refine nodup_map_on (lookI_nodup _ _ _) fun a ha b hb h => ?_
    exact w.inj (lookI_mem _ _ _ ha).1 (lookI_mem _ _ _ hb).1 h
  · exact List.Pairwise.filter _ List.nodup_range

theorem look_sorted {st : HS} (w : st.WF) (ho : st.HO) : sorted ((lookI st st.m 0).map fun i => (st.hs i : Int)) = (tops st).map fun v : Nat => (v : Int) := by
  unfold sorted
  have h1 : ((lookI st st.m 0).map fun i => (st.hs i : Int)) = ((lookI st st.m 0).map st.hs).map fun v : Nat => (v : Int) := by rw [List.map_map]; rfl
  rw [h1]
  refine List.Perm.eq_of_pairwise (le := fun x y => x ≤ y) (fun a b _ _ h k => Int.le_antisymm h k) ?_ ?_ ((List.mergeSort_perm _ _).trans ((look_perm w ho).map _))
  · have := List.pairwise_mergeSort (le := fun x y : Int => decide (x ≤ y)) (fun a b c h k => by simp at *; omega) (fun a b => by simp; omega) (((lookI st st.m 0).map st.hs).map fun v : Nat => (v : Int))
    exact this.imp fun h => by simpa using h
  · rw [List.pairwise_map]
    unfold tops
    refine List.Pairwise.filter _ ?_
    exact List.pairwise_lt_range.imp fun h => by omega

theorem tops_pos {st : HS} (w : st.WF) (hm : 0 < st.m) : tops st ≠ [] := by
  have := w.hs 0 hm
  intro e
  have h : st.hs 0 ∈ tops st := by
    unfold tops; rw [List.mem_filter, List.mem_range, decide_eq_true_iff]; exact ⟨this.2.1, by omega, rfl⟩
  rw [e] at h; cases h
end Go.Proofs.Ytcmaphhcbgdigaa.A
