/- Operations on values: make, slices of slices, conversions, tests. -/
import Derived.Test.YtpjmbigfgoogaacAb10
set_option linter.unusedVariables false
set_option linter.unusedSimpArgs false
set_option linter.constructorNameAsVariable false
namespace Go.Ab
open Go Go.RowKit

/-- make([]T, n), make([]T, 0, c). -/
def makeK (e : TypeId) (ti : TI) (M : Mem) : AV → AV → (AV → Mem → Prop) → Prop
  | .c (.int _ n), .c (.int _ c), K => (ti.k.agg = true ∨ 0 < ti.sz) ∧ 0 ≤ c ∧ ti.by' * c.toNat ≤ 281474976710656 ∧ c ≤ 9223372036854775807 ∧
      ((n = c ∧ K (.s M.k 0 n.toNat) (newMem M ⟨e, ti.sz, List.replicate n.toNat (zeroAV ti)⟩)) ∨ (n = 0 ∧ K (.s M.k 0 0) (newMem M ⟨e, ti.sz, []⟩)))
  | _, _, _ => False
theorem Good.owned {w0 : World} {E : Env} {M : Mem} (hg : Good w0 E M) {w' : World} {e : TypeId} {sz g n cap : Nat} {vals : List Value} {xs : List AV}
    (hgr : E.w.grownBy w' none) (ho : w'.ownsRow E.w.heap.size e sz (.slice (some ⟨g, 0, none⟩) n cap) n vals) (hx : xs.length = n)
    (hc : ∀ i (hi : i < xs.length), xs[i].cells.length = sz ∧ ∀ j (hj : j < xs[i].cells.length), ∃ y, vals[i * sz + j]? = some y ∧ One y ∧ Rep E xs[i].cells[j] y) :
    Good w0 ⟨w', Ab.upd E.ad E.k (some ⟨g, sz, n, cap⟩), E.k + 1, E.hid⟩ ⟨insert M.l M.k ⟨e, sz, xs⟩, M.k + 1⟩ ∧ Later E ⟨w', Ab.upd E.ad E.k (some ⟨g, sz, n, cap⟩), E.k + 1, E.hid⟩ := by
  have hnone : E.ad E.k = none := by
    cases hq : E.ad E.k with
    | none => rfl
    | some q => exact absurd (hg.lt _ _ hq) (by omega)
  obtain ⟨ho1, ho2⟩ := ho
  rcases ho2 with ⟨h, _⟩ | ⟨g', cap', cur, h, hb, hh, hnc, hcm, hcs, htk⟩
  · simp at h
  · simp only [Value.slice.injEq, Option.some.injEq, Addr.mk.injEq, and_true, true_and] at h
    obtain ⟨rfl, rfl⟩ := h
    rw [hg.k]
    refine Good.upd hg w' E.k (E.k + 1) ⟨g, sz, n, cap⟩ ⟨e, sz, xs⟩ (by omega) (by omega)
      (hg.below.trans ⟨hgr.os, hgr.tape, hgr.output, hgr.size, fun b hb => hgr.block b (Nat.lt_of_lt_of_le hb hg.below.size) (by simp)⟩) hgr.size (fun b hb _ => hgr.block b hb (by simp)) rfl hx.symm hnc
      (fun _ => ⟨Nat.le_trans hg.below.size hb, .inl hb⟩) (fun q hq => by rw [hnone] at hq; cases hq) (fun h => absurd h (by omega)) (fun hl _ => ?_)
    refine ⟨hcm, cur, hh, hcs, fun i hi => ⟨(hc i hi).1, fun j hj => ?_⟩⟩
    obtain ⟨y, a, b, c⟩ := (hc i hi).2 j hj
    refine ⟨y, ?_, b, c.later hl⟩
    have hlt : i * sz + j < vals.length := (List.getElem?_eq_some_iff.1 a).1
    rw [← htk, List.getElem?_take_of_lt (by omega)] at a
    simpa using a
theorem rep_made {P : Program} {t : TypeId} {ti : TI} (ht : TOk P t ti) (hs : ti.k.agg = true ∨ 0 < ti.sz) (E : Env) (n : Nat) :
    ∀ i (hi : i < (List.replicate n (zeroAV ti)).length), (List.replicate n (zeroAV ti))[i].cells.length = ti.sz ∧
      ∀ j (hj : j < (List.replicate n (zeroAV ti))[i].cells.length), ∃ y, (madeCells ti.zero.cells (n * ti.sz)).toList[i * ti.sz + j]? = some y ∧ One y ∧ Rep E (List.replicate n (zeroAV ti))[i].cells[j] y := by
  intro i hi
  have hi' : i < n := by simpa using hi
  have hz := rep_zero ht hs E
  have hcl : Cells (zeroAV ti) := by
    unfold zeroAV
    cases ha : ti.k.agg with
    | true =>
      simp only [cond_true, Cells]
      generalize ti.z = z
      induction z with
      | nil => trivial
      | cons a r ih => exact ⟨trivial, ih⟩
    | false => trivial
  obtain ⟨g1, g2⟩ := hz.cells hcl
  have hzc := ht.zc
  simp only [List.getElem_replicate]
  refine ⟨by omega, fun j hj => ?_⟩
  have hj2 : j < ti.zero.cells.size := by omega
  refine ⟨ti.zero.cells[j], ?_, (g2 j hj hj2).1, (g2 j hj hj2).2⟩
  have h1 : i * ti.sz + j < n * ti.sz := by
    have : (i + 1) * ti.sz ≤ n * ti.sz := Nat.mul_le_mul_right _ hi'
    rw [Nat.add_mul] at this; omega
  have h3 : (i * ti.sz + j) % ti.zero.cells.size = j := by
    rw [hzc, Nat.mul_comm, Nat.mul_add_mod]; exact Nat.mod_eq_of_lt (by omega)
  simp [madeCells, h1, h3, hj2]
theorem make_out {P : Program} {w0 : World} {E : Env} {M : Mem} {t e : TypeId} {ti : TI} {a b : AV} {u v : Value} {K : AV → Mem → Prop} (hg : Good w0 E M)
    (hS : KOk P t (.sl e)) (ht : TOk P e ti) (hr : Rep E a u) (hx : Rep E b v) (h : makeK e ti M a b K) : Out P w0 E (Instr.makeSlice t u v) K := by
  obtain ⟨f, g1, g2, g3, g4⟩ := ht.ex
  cases hr <;> try exact h.elim
  cases hx <;> (cases u <;> try exact h.elim)
  cases v <;> try exact h.elim
  rename_i k n _ k' c _
  obtain ⟨hs, h0, hby, hmx, hK⟩ := h
  have hc : ((c.toNat : Nat) : Int) = c := Int.toNat_of_nonneg h0
  rcases hK with ⟨rfl, hK⟩ | ⟨rfl, hK⟩
  · obtain ⟨w', r1, r2, r3⟩ := run_make_full (P := P) E.w E.w.heap.size t e f ti.zero ti.sz hS g1 g2 g3 k k' n.toNat (by rw [g4]; exact hby) (by simp only [maxLen]; omega) (Nat.le_refl _)
    rw [hc] at r1
    have hgd := Good.owned hg r3 r2 (xs := List.replicate n.toNat (zeroAV ti)) (by simp) (rep_made ht hs E n.toNat)
    refine ⟨_, _, _, _, r1, hgd.1, hgd.2, .s E.k 0 n.toNat _ _ (by show E.k < E.k + 1; omega) (fun q hq => ?_), ?_⟩
    · simp only [upd_self, Option.some.injEq] at hq
      subst hq
      exact ⟨by simp, fun _ => ⟨by simp, fun _ => by simp⟩⟩
    · simpa [newMem, hg.k] using hK
  · obtain ⟨w', r1, r2, r3⟩ := run_make_own (P := P) E.w E.w.heap.size t e f ti.zero ti.sz hS g1 g2 g3 k k' c.toNat (by rw [g4]; exact hby) (by simp only [maxLen]; omega) (Nat.le_refl _)
    rw [hc] at r1
    have hgd := Good.owned hg r3 r2 (xs := []) rfl (fun i hi => absurd hi (by simp))
    refine ⟨_, _, _, _, r1, hgd.1, hgd.2, .s E.k 0 0 _ _ (by show E.k < E.k + 1; omega) (fun q hq => ?_), ?_⟩
    · simp only [upd_self, Option.some.injEq] at hq
      subst hq
      exact ⟨by simp, fun _ => ⟨by simp, fun _ => by simp⟩⟩
    · simpa [newMem, hg.k] using hK
end Go.Ab
