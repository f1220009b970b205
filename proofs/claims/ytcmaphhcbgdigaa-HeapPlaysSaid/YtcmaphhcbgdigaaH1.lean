/- Arrays of numbers in abstract heaps. -/
import Derived.Test.YtcmaphhcbgdigaaF2
import Derived.Test.YtcmaphhcbgdigaaH0
set_option linter.all false
namespace Go.Proofs.Ytcmaphhcbgdigaa.A
open Go

abbrev tabI (n : Nat) (f : Nat → Int) : List AVal := (List.range n).map fun i => .int .i64 (f i)
def nat (f : Nat → Nat) : Nat → Int := fun i => (f i : Int)
theorem nat_upd (f : Nat → Nat) (k x : Nat) : upd (nat f) k (x : Int) = nat (upd f k x) := by
  funext i; simp only [upd, nat]; split <;> rfl
theorem tabI_len (n : Nat) (f : Nat → Int) : (tabI n f).length = n := by simp
theorem tabI_get {n i : Nat} (f : Nat → Int) (h : i < n) : (tabI n f)[i]? = some (.int .i64 (f i)) := by simp [h]
theorem tabI_congr {n : Nat} {f g : Nat → Int} (h : ∀ i, i < n → f i = g i) : tabI n f = tabI n g := by
  apply List.map_congr_left; intro i hi; rw [h i (List.mem_range.1 hi)]
theorem tabI_set {n k : Nat} (f : Nat → Int) (x : Int) : (tabI n f).set k (.int .i64 x) = tabI n (upd f k x) := by
  apply List.ext_getElem? fun i => ?_
  rw [List.getElem?_set]
  by_cases hi : i < n
  · rw [tabI_get _ hi]
    by_cases h : k = i
    · subst h; simp [hi, upd]
    · rw [if_neg h, tabI_get _ hi, upd_ne _ _ (Ne.symm h)]
  · by_cases h : k = i
    · subst h; simp [hi]
    · simp [hi, h]
theorem tabI_succ (n : Nat) (f : Nat → Int) : tabI (n + 1) f = tabI n f ++ [.int .i64 (f n)]   := by unfold tabI; rw [List.range_succ, List.map_append]; rfl
theorem tabI_push (n : Nat) (f : Nat → Int) (x : Int) : tabI n f ++ [.int .i64 x] = tabI (n + 1) (upd f n x) := by
  rw [tabI_succ, upd_at, tabI_congr (f := upd f n x) (g := f) fun i hi => upd_ne _ _ (by omega)]

theorem set_get {σ : Heap} {l k : Nat} {o : AObj} : (σ.set l o).get k = if k = l then some o else σ.get k := rfl
theorem set_next {σ : Heap} {l : Nat} {o : AObj} : (σ.set l o).next = σ.next := rfl
theorem new_get {σ : Heap} {k : Nat} {o : AObj} : (σ.new o).get k = if k = σ.next then some o else σ.get k := rfl
theorem new_next {σ : Heap} {o : AObj} : (σ.new o).next = σ.next + 1 := rfl
theorem kill_get {σ : Heap} {l k : Nat} : (σ.kill l).get k = if k = l then none else σ.get k := rfl
theorem kill_next {σ : Heap} {l : Nat} : (σ.kill l).next = σ.next := rfl

theorem wrap_small {n : Int} (h0 : -9223372036854775808 ≤ n) (h1 : n < 9223372036854775808) : IntKind.i64.wrap n = n := by
  rw [IntKind.wrap_i64]; omega

section
variable {Rt : Type}
theorem ix_nat {σ : Heap} {l len k sz : Nat} {c : Option Nat} {md : Md} {cs : List AVal} (hg : σ.get l = some (.cells md sz cs)) (h : k < len) (K : AVal → Option Rt) :
    ixA σ (.sl l 0 len c) sz (k : Int) K = K (.ptr l (k * sz)) := by
  simp [ixA, hg, h]
theorem ix_one {σ : Heap} {l len k : Nat} {c : Option Nat} {md : Md} {cs : List AVal} (hg : σ.get l = some (.cells md 1 cs)) (h : k < len) (K : AVal → Option Rt) :
    ixA σ (.sl l 0 len c) 1 (k : Int) K = K (.ptr l k) := by
  rw [ix_nat hg h, Nat.mul_one]
theorem ix_int {σ : Heap} {l len : Nat} {k : Int} {c : Option Nat} {md : Md} {cs : List AVal} (hg : σ.get l = some (.cells md 1 cs)) (h0 : 0 ≤ k) (h : k < len) (K : AVal → Option Rt) :
    ixA σ (.sl l 0 len c) 1 k K = K (.ptr l k.toNat) := by
  obtain ⟨k, rfl⟩ := Int.eq_ofNat_of_zero_le h0
  exact ix_one hg (by omega) K
theorem ld_arr {σ : Heap} {l n k : Nat} {f : Nat → Int} {md : Md} (hg : σ.get l = some (.cells md 1 (tabI n f))) (h : k < n) (K : Int → Option Rt) : ld σ (.ptr l k) (.I .i64) K = K (f k) := by
  simp only [ld, Heap.cell, hg, tabI_get f h, asK, if_true]
theorem ld_v {σ : Heap} {l k sz : Nat} {cs : List AVal} {v : AVal} {md : Md} (hg : σ.get l = some (.cells md sz cs)) (h : cs[k]? = some v) (K : AVal → Option Rt) : ld σ (.ptr l k) .V K = K v := by
  simp only [ld, Heap.cell, hg, h, asK]
theorem stC_one {σ : Heap} {l o sz : Nat} {cs : List AVal} {v : AVal} (hg : σ.get l = some (.cells .rw sz cs)) (ho : o < cs.length) (K : Heap → Option Rt) :
    stC σ (.ptr l o) [v] K = K (σ.set l (.cells .rw sz (cs.set o v))) := by
  have : cs.take o ++ [v] ++ cs.drop (o + 1) = cs.set o v := by
    rw [List.set_eq_take_append_cons_drop, if_pos ho]; simp
  simp only [stC, hg, List.length_cons, List.length_nil, Nat.zero_add]
  rw [if_pos (by omega), this]
theorem st_arr {σ : Heap} {l n k : Nat} {f : Nat → Int} {x : Int} (hg : σ.get l = some (.cells .rw 1 (tabI n f))) (h : k < n) (K : Heap → Option Rt) :
    stC σ (.ptr l k) [.int .i64 x] K = K (σ.set l (.cells .rw 1 (tabI n (upd f k x)))) := by
  rw [stC_one hg (by rw [tabI_len]; exact h), tabI_set]

/-- One more number, where there is no room. -/
theorem app_full {σ : Heap} {l n : Nat} {f : Nat → Int} {x : Int} {la : Nat} (hg : σ.get l = some (.cells .rw 1 (tabI n f))) (ha : σ.get la = some (.cells .rw 1 [.int .i64 x])) (hn : n < 1000000) (K : AVal → Heap → Option Rt) :
    appS σ 1 8 (.sl l 0 n none) (.sl la 0 1 none) K = K (.sl σ.next 0 (n + 1) none) ((σ.kill l).new (.cells .rw 1 (tabI (n + 1) (upd f n x)))) := by
  simp only [appS, srcK, ha, appC, hg, newK, kill_next]
  rw [if_pos (by simp), if_pos (by simp), if_neg (by simp), if_pos (by omega), if_pos True.intro, if_neg (by rw [tabI_len]; omega)]
  simp only [Nat.zero_mul, List.drop_zero, Nat.one_mul, Nat.mul_one, List.take_one, List.head?_cons, Option.toList]
  rw [List.take_of_length_le (by rw [tabI_len]; omega), tabI_push]
/-- One more number, where there is room. -/
theorem app_room {σ : Heap} {l n M : Nat} {f : Nat → Int} {x : Int} {la : Nat} (hg : σ.get l = some (.cells .rw 1 (tabI M f))) (ha : σ.get la = some (.cells .rw 1 [.int .i64 x])) (hM : n < M) (hn : n < 1000000) (K : AVal → Heap → Option Rt) :
    appS σ 1 8 (.sl l 0 n none) (.sl la 0 1 none) K = K (.sl l 0 (n + 1) none) (σ.set l (.cells .rw 1 (tabI M (upd f n x)))) := by
  simp only [appS, srcK, ha, appC, hg, newK, kill_next]
  rw [if_pos (by simp), if_pos (by simp; omega), if_neg (by simp), if_pos (by omega), if_pos True.intro, if_pos (by rw [tabI_len]; omega)]
  have e : (tabI M f).take ((0 + n) * 1) ++ ([AVal.int .i64 x].drop (0 * 1)).take (1 * 1) ++ (tabI M f).drop ((0 + n + 1) * 1) = tabI M (upd f n x) := by
    rw [← tabI_set, List.set_eq_take_append_cons_drop, if_pos (by rw [tabI_len]; exact hM)]; simp
  rw [e]
/-- The first number of a slice. -/
theorem app_nil {σ : Heap} {x : Int} {la : Nat} (ha : σ.get la = some (.cells .rw 1 [.int .i64 x])) (K : AVal → Heap → Option Rt) :
    appS σ 1 8 .nils (.sl la 0 1 none) K = K (.sl σ.next 0 1 none) (σ.new (.cells .rw 1 (tabI 1 (upd (fun _ => 0) 0 x)))) := by
  simp only [appS, srcK, ha, appC, newK]
  rw [if_pos (by simp), if_neg (by simp), if_pos (by omega)]
  rfl
end
end Go.Proofs.Ytcmaphhcbgdigaa.A
