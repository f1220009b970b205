/- The program's heap: what is told to it. -/
import Derived.Test.YtcmaphhcbgdigaaH3
set_option linter.all false
namespace Go.Proofs.Ytcmaphhcbgdigaa.A
open Go

/-- What a heap is made of whatever its array is. -/
structure HCore (σ : Heap) (lh ls lp : Nat) (vb : AVal) (st : HS) : Prop where
  h : σ.get lh = some (.cells .rw 3 [.sl ls 0 st.N none, .sl lp 0 st.N none, vb])
  s : σ.get ls = some (.cells .rw 1 (tabI st.N st.sc))
  p : σ.get lp = some (.cells .rw 1 (tabI st.N (nat st.pl)))
  big : st.N ≤ 5000
  ne : lh ≠ ls ∧ lh ≠ lp ∧ ls ≠ lp
  lt : lh < σ.next ∧ ls < σ.next ∧ lp < σ.next
def foot (lh ls lp lb : Nat) : Nat → Prop := fun l => l = lh ∨ l = ls ∨ l = lp ∨ l = lb
/-- A heap, and its objects. -/
def HIn (σ : Heap) (lh : Nat) (F : Nat → Prop) (st : HS) : Prop :=
  (∃ ls lp lb M, HAt σ lh ls lp lb M st ∧ F = foot lh ls lp lb) ∨ (∃ ls lp, HCore σ lh ls lp .nils st ∧ st.m = 0 ∧ F = foot lh ls lp lh)

def most : Int := 1099511627776
structure Hp (σ : Heap) (lh : Nat) (F : Nat → Prop) (st : HS) : Prop where
  wf : st.WF
  ho : st.HO
  sc : ∀ v, v < st.N → 0 ≤ st.sc v ∧ st.sc v ≤ most
  n1 : 1 ≤ st.N
  n2 : st.N ≤ 4001
  at' : HIn σ lh F st

/-- What a heap's functions may change. -/
structure Step (σ σ' : Heap) (F F' : Nat → Prop) : Prop where
  next : σ.next ≤ σ'.next
  get : ∀ l, ¬ F l → l < σ.next → σ'.get l = σ.get l
  foot : ∀ l, F' l → F l ∨ σ.next ≤ l

theorem Step.refl (σ : Heap) (F : Nat → Prop) : Step σ σ F F := ⟨Nat.le_refl _, fun _ _ _ => rfl, fun _ h => .inl h⟩
theorem Step.trans {σ σ1 σ2 : Heap} {F F1 F2 : Nat → Prop} (a : Step σ σ1 F F1) (b : Step σ1 σ2 F1 F2) : Step σ σ2 F F2 :=
  ⟨Nat.le_trans a.next b.next, fun l h k => (b.get l (fun e => (a.foot l e).elim h (fun z => by omega)) (by have := a.next; omega)).trans (a.get l h k),
    fun l h => (b.foot l h).elim (a.foot l) fun z => .inr (by have := a.next; omega)⟩

theorem HAt.core {σ : Heap} {lh ls lp lb M : Nat} {st : HS} (H : HAt σ lh ls lp lb M st) : HCore σ lh ls lp (.sl lb 0 st.m none) st :=
  ⟨H.h, H.s, H.p, H.big, ⟨H.ne.1, H.ne.2.1, H.ne.2.2.2.1⟩, ⟨H.lt.1, H.lt.2.1, H.lt.2.2.1⟩⟩
theorem HIn.core {σ : Heap} {lh : Nat} {F : Nat → Prop} {st : HS} (H : HIn σ lh F st) : ∃ ls lp vb, HCore σ lh ls lp vb st ∧ (∀ {Rt : Type} (K : Int → Option Rt), lenV vb K = K st.m) ∧ F lh ∧ F ls ∧ F lp := by
  rcases H with ⟨ls, lp, lb, M, h, rfl⟩ | ⟨ls, lp, h, hm, rfl⟩
  · exact ⟨_, _, _, h.core, fun K => rfl, .inl rfl, .inr (.inl rfl), .inr (.inr (.inl rfl))⟩
  · exact ⟨_, _, _, h, fun K => by rw [hm]; rfl, .inl rfl, .inr (.inl rfl), .inr (.inr (.inl rfl))⟩
theorem HIn.lt {σ : Heap} {lh : Nat} {F : Nat → Prop} {st : HS} (H : HIn σ lh F st) {l : Nat} (h : F l) : l < σ.next := by
  rcases H with ⟨ls, lp, lb, M, H, rfl⟩ | ⟨ls, lp, H, hm, rfl⟩
  · rcases h with rfl | rfl | rfl | rfl
    · exact H.lt.1
    · exact H.lt.2.1
    · exact H.lt.2.2.1
    · exact H.lt.2.2.2
  · rcases h with rfl | rfl | rfl | rfl
    · exact H.lt.1
    · exact H.lt.2.1
    · exact H.lt.2.2
    · exact H.lt.1
/-- A heap stands where its objects are as they were. -/
theorem HAt.keep {σ σ' : Heap} {lh ls lp lb M : Nat} {st : HS} (H : HAt σ lh ls lp lb M st) (hn : σ.next ≤ σ'.next) (hg : ∀ l, foot lh ls lp lb l → σ'.get l = σ.get l) : HAt σ' lh ls lp lb M st :=
  ⟨(hg _ (.inl rfl)).trans H.h, (hg _ (.inr (.inl rfl))).trans H.s, (hg _ (.inr (.inr (.inl rfl)))).trans H.p, (hg _ (.inr (.inr (.inr rfl)))).trans H.b, H.mM, H.mN, H.big, H.ne,
    ⟨by have := H.lt.1; omega, by have := H.lt.2.1; omega, by have := H.lt.2.2.1; omega, by have := H.lt.2.2.2; omega⟩⟩
theorem HCore.keep {σ σ' : Heap} {lh ls lp : Nat} {vb : AVal} {st : HS} (H : HCore σ lh ls lp vb st) (hn : σ.next ≤ σ'.next) (hg : ∀ l, l = lh ∨ l = ls ∨ l = lp → σ'.get l = σ.get l) : HCore σ' lh ls lp vb st :=
  ⟨(hg _ (.inl rfl)).trans H.h, (hg _ (.inr (.inl rfl))).trans H.s, (hg _ (.inr (.inr rfl))).trans H.p, H.big, H.ne,
    ⟨by have := H.lt.1; omega, by have := H.lt.2.1; omega, by have := H.lt.2.2; omega⟩⟩
theorem HIn.keep {σ σ' : Heap} {lh : Nat} {F : Nat → Prop} {st : HS} (H : HIn σ lh F st) (hn : σ.next ≤ σ'.next) (hg : ∀ l, F l → σ'.get l = σ.get l) : HIn σ' lh F st := by
  rcases H with ⟨ls, lp, lb, M, h, rfl⟩ | ⟨ls, lp, h, hm, rfl⟩
  · exact .inl ⟨ls, lp, lb, M, h.keep hn hg, rfl⟩
  · exact .inr ⟨ls, lp, h.keep hn (fun l e => hg l (by rcases e with rfl | rfl | rfl <;> simp [foot])), hm, rfl⟩
theorem Hp.keep {σ σ' : Heap} {lh : Nat} {F : Nat → Prop} {st : HS} (H : Hp σ lh F st) (hn : σ.next ≤ σ'.next) (hg : ∀ l, F l → σ'.get l = σ.get l) : Hp σ' lh F st :=
  ⟨H.wf, H.ho, H.sc, H.n1, H.n2, H.at'.keep hn hg⟩
theorem Chg.step {σ σ' : Heap} {lh ls lp lb : Nat} (c : Chg σ σ' lb lp) : Step σ σ' (Ytcmaphhcbgdigaa.A.foot lh ls lp lb) (Ytcmaphhcbgdigaa.A.foot lh ls lp lb) :=
  ⟨Nat.le_of_eq c.next.symm, fun l h _ => c.get l (fun e => h (.inr (.inr (.inr e)))) (fun e => h (.inr (.inr (.inl e)))), fun _ h => .inl h⟩

section
variable {σ : Heap} {lh ls lp : Nat} {vb : AVal} {st : HS}
theorem HCore.l0 (H : HCore σ lh ls lp vb st) {Rt : Type} (K : AVal → Option Rt) : ld σ (.ptr lh (0 + 0)) .V K = K (.sl ls 0 st.N none) := ld_v H.h rfl K
theorem HCore.l1 (H : HCore σ lh ls lp vb st) {Rt : Type} (K : AVal → Option Rt) : ld σ (.ptr lh (0 + 1)) .V K = K (.sl lp 0 st.N none) := ld_v H.h rfl K
theorem HCore.l2 (H : HCore σ lh ls lp vb st) {Rt : Type} (K : AVal → Option Rt) : ld σ (.ptr lh (0 + 2)) .V K = K vb := ld_v H.h rfl K
theorem is_core (H : HCore σ lh ls lp vb st) (v : Int) : S.heap_Heap_is (.ptr lh 0) v σ = some (decide (0 < v ∧ v < st.N)) := by
  unfold S.heap_Heap_is
  by_cases hv : v > 0
  · simp only [hv, decide_true, cond_true, nilck, fld, H.l0, lenV, Option.bind_some]
    simp
  · simp [hv]
theorem has_core (H : HCore σ lh ls lp vb st) (v : Int) : S.heap_Heap_Has (.ptr lh 0) v σ = some (decide (0 < v ∧ v < st.N ∧ 0 < st.pl v.toNat)) := by
  unfold S.heap_Heap_Has
  rw [is_core H]
  by_cases h : 0 < v ∧ v < st.N
  · simp only [Option.bind_some, h, and_self, decide_true, cond_true, nilck, fld, H.l1]
    rw [ix_int H.p (by omega) h.2, ld_arr H.p (by omega)]
    simp [h, nat]
  · have : ¬ (0 < v ∧ v < st.N ∧ 0 < st.pl v.toNat) := fun e => h ⟨e.1, e.2.1⟩
    simp [h, this]
theorem score_core (H : HCore σ lh ls lp vb st) (v : Int) : S.heap_Heap_Score (.ptr lh 0) v σ = some (if 0 < v ∧ v < st.N then st.sc v.toNat else 0) := by
  unfold S.heap_Heap_Score
  rw [is_core H]
  by_cases h : 0 < v ∧ v < st.N
  · simp only [Option.bind_some, h, and_self, decide_true, Bool.not_true, cond_false, nilck, fld, H.l0]
    rw [ix_int H.s (by omega) h.2, ld_arr H.s (by omega)]
    simp
  · simp [h]
end

section
variable {σ : Heap} {lh : Nat} {F : Nat → Prop} {st : HS}
theorem len_eq (H : Hp σ lh F st) : S.heap_Heap_Len (.ptr lh 0) σ = some (st.m : Int) := by
  obtain ⟨ls, lp, vb, c, hl, _⟩ := H.at'.core
  unfold S.heap_Heap_Len
  simp only [nilck, fld, c.l2, hl]
theorem is_eq (H : Hp σ lh F st) (v : Int) : S.heap_Heap_is (.ptr lh 0) v σ = some (decide (0 < v ∧ v < st.N)) := by
  obtain ⟨ls, lp, vb, c, hl, _⟩ := H.at'.core; exact is_core c v
theorem has_eq (H : Hp σ lh F st) (v : Int) : S.heap_Heap_Has (.ptr lh 0) v σ = some (decide (0 < v ∧ v < st.N ∧ 0 < st.pl v.toNat)) := by
  obtain ⟨ls, lp, vb, c, hl, _⟩ := H.at'.core; exact has_core c v
theorem score_eq (H : Hp σ lh F st) (v : Int) : S.heap_Heap_Score (.ptr lh 0) v σ = some (if 0 < v ∧ v < st.N then st.sc v.toNat else 0) := by
  obtain ⟨ls, lp, vb, c, hl, _⟩ := H.at'.core; exact score_core c v
end

/-- With one more at its end. -/
def HS.more (st : HS) (v : Nat) : HS := { st with m := st.m + 1, hs := upd st.hs st.m v }
theorem more_put (st : HS) (v : Nat) : (st.more v).put st.m ((st.more v).hs st.m) = { st with m := st.m + 1, hs := upd st.hs st.m v, pl := upd st.pl v (st.m + 1) } := by
  have : (st.more v).hs st.m = v := upd_at ..
  rw [this]
  simp only [HS.put, HS.more]
  congr 1
  funext i; simp only [upd]; split <;> rfl

theorem more_off {st : HS} (w : st.WF) (ho : st.HO) {v : Nat} (h0 : 0 < v) (hv : v < st.N) (hp : st.pl v = 0) :
    ((st.more v).put st.m ((st.more v).hs st.m)).Off st.m ∧ ((st.more v).put st.m ((st.more v).hs st.m)).Ch st.m := by
  rw [more_put]
  refine ⟨⟨⟨fun i hi => ?_, fun x hx hp2 => ?_⟩, Nat.lt_succ_self _, fun i h1 h2 h3 h4 => ?_, fun i h1 h2 h3 _ => ?_⟩, fun i h1 h2 h3 => ?_⟩
  · have hi' : i < st.m + 1 := hi
    show 0 < upd st.hs st.m v i ∧ upd st.hs st.m v i < st.N ∧ upd st.pl v (st.m + 1) (upd st.hs st.m v i) = i + 1
    by_cases h : i = st.m
    · subst h; rw [upd_at, upd_at]; exact ⟨h0, hv, rfl⟩
    · rw [upd_ne _ _ h]
      have := w.hs i (by omega)
      rw [upd_ne _ _ (fun e => by rw [e] at this; omega)]; exact this
  · have hp2' : 0 < upd st.pl v (st.m + 1) x := hp2
    show upd st.pl v (st.m + 1) x ≤ st.m + 1 ∧ upd st.hs st.m v (upd st.pl v (st.m + 1) x - 1) = x
    by_cases h : x = v
    · subst h; rw [upd_at, Nat.add_sub_cancel, upd_at]; exact ⟨Nat.le_refl _, rfl⟩
    · rw [upd_ne _ _ h] at hp2' ⊢
      have := w.pl x hx hp2'
      rw [upd_ne _ _ (by omega)]; exact ⟨by omega, this.2⟩
  · have h2' : i < st.m + 1 := h2
    show ¬ ah st.sc (upd st.hs st.m v i) (upd st.hs st.m v ((i - 1) / 2))
    rw [upd_ne _ _ h3, upd_ne _ _ h4]; exact ho i h1 (by omega)
  · have h2' : i < st.m + 1 := h2
    have h3' : (i - 1) / 2 = st.m := h3
    omega
  · have h2' : i < st.m + 1 := h2
    have h3' : (i - 1) / 2 = st.m := h3
    omega

/-- The rest of `Push`. -/
theorem push_tail {σ : Heap} {lh ls lp lb M : Nat} {st : HS} {v : Nat} (H : HAt σ lh ls lp lb M (st.more v)) (w : st.WF) (ho : st.HO) (h0 : 0 < v) (hv : v < st.N) (hp : st.pl v = 0) :
    ∃ (σ' : Heap) (st' : HS), S.heap_Heap_up (.ptr lh 0) (IntKind.i64.wrap (((st.m + 1 : Nat) : Int) - 1)) σ = some ((), σ') ∧ HAt σ' lh ls lp lb M st' ∧ Chg σ σ' lb lp ∧ st'.WF ∧ st'.HO ∧
      st'.N = st.N ∧ st'.sc = st.sc ∧ st'.m = st.m + 1 ∧ ∀ x, 0 < st'.pl x ↔ 0 < st.pl x ∨ x = v := by
  obtain ⟨o, ch⟩ := more_off w ho h0 hv hp
  have hb := H.big; have hm := H.mN
  obtain ⟨σ', st', e, H', c, lk, w', ho', _⟩ := up_eq' H (k := st.m) o (fun i hi => by
    have hi' : i < st.m + 1 := hi
    show upd st.hs st.m v i < st.N; unfold upd; split
    · exact hv
    · exact (w.hs i (by omega)).2.1)
  rw [more_put] at lk
  refine ⟨σ', st', ?_, H', c, w', ho' ch, lk.1.symm, lk.2.2.1.symm, lk.2.1.symm, fun x => (lk.2.2.2 x).trans ?_⟩
  · have hm' : st.m + 1 ≤ st.N := hm
    have hb' : st.N ≤ 5000 := hb
    have : ((st.m + 1 : Nat) : Int) - 1 = st.m := by omega
    rw [this, wrap_small (by omega) (by omega)]; exact e
  · show 0 < upd st.pl v (st.m + 1) x ↔ _
    unfold upd; split
    · rename_i h; simp [h]
    · rename_i h; simp [h]
end Go.Proofs.Ytcmaphhcbgdigaa.A
