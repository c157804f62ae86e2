/- A literal slice that nobody writes any more. -/
import Derived.Test.YtpjmbigfgoogaacAb10
set_option linter.unusedVariables false
set_option linter.unusedSimpArgs false
set_option linter.constructorNameAsVariable false
namespace Go.Ab
open Go Go.RowKit

theorem Good.grow {w0 : World} {E : Env} {M : Mem} (hg : Good w0 E M) {w' : World} (hb : Below E.w.heap.size E.w w') : Good w0 ⟨w', E.ad, E.k, E.hid⟩ M ∧ Later E ⟨w', E.ad, E.k, E.hid⟩ := by
  have hl : Later E ⟨w', E.ad, E.k, E.hid⟩ := ⟨fun b h => ⟨⟨Nat.lt_of_lt_of_le h.1 hb.size, h.2.1, h.2.2⟩, hb.block b h.1⟩, Nat.le_refl _, fun i _ q hq => ⟨q, hq, Nat.le_refl _, fun _ => rfl⟩, rfl⟩
  refine ⟨⟨hg.below.trans (hb.mono hg.below.size), hg.k, hg.lt, hg.gone, fun i blk hi => ?_, hg.hid, hg.old, hg.inj⟩, hl⟩
  obtain ⟨q, h1, h2, h3, h4, h5⟩ := hg.held i blk hi
  exact ⟨q, h1, h2, h3, h4, fun hcp => ⟨(h5 hcp).1, ((h5 hcp).2).later hl (hb.block _ (backed_lt (h5 hcp).2))⟩⟩

theorem Good.lt_b' {w0 : World} {E : Env} {M : Mem} (hg : Good w0 E M) {i : Nat} {q : At} (hq : E.ad i = some q) (hcp : 0 < q.cp) : w0.heap.size ≤ q.b ∧ q.b < E.w.heap.size := by
  cases hM : M.get i with
  | none => rw [hg.gone i hM] at hq; cases hq
  | some blk =>
    obtain ⟨q1, b1, _, _, _, b5⟩ := hg.held i blk hM
    rw [hq] at b1; cases b1
    exact ⟨(b5 hcp).1, backed_lt (b5 hcp).2⟩
def litK (ti : TI) (M : Mem) (ps : List (Nat × AV)) (K : AV → Mem → Prop) : Prop :=
  AllVP M ps ∧ idsP ps = [] ∧ 0 < ti.sz ∧ ps.length * ti.sz ≤ 16777216 ∧ AllSz ti.sz ((viewP M ps).map (·.2)) ∧ K (.l ti.sz ((viewP M ps).map (·.2))) M
theorem lit_out {P : Program} {w0 : World} {E : Env} {M : Mem} {t e : TypeId} {ti : TI} {n : Nat} {ps : List (Nat × AV)} {vs : Array (Nat × Value)} {K : AV → Mem → Prop}
    (hg : Good w0 E M) (hS : KOk P t (.sl e)) (ht : TOk P e ti) (hr : RepP E ps vs.toList) (hn : n = ps.length) (hix : ps.map (·.1) = List.range' 0 ps.length) (h : litK ti M ps K) : Out P w0 E (Instr.buildSlice t n vs) K := by
  obtain ⟨h1, hids, hsz, hmax, h2, h3⟩ := h
  have hrv := rep_viewP (ids := []) hg ps vs.toList hr h1 (by rw [hids]; exact fun _ h => h)
  rw [without_nil] at hrv
  obtain ⟨q1, q2, q3⟩ := repP_map (viewP M ps) vs.toList 0 hrv (by rw [viewP_fst, viewP_length]; exact hix)
  rw [viewP_length] at q2
  have hvs : ∀ i (hi : i < vs.toList.length), (vs.toList[i].2).cells.size = ti.sz := fun i hi => by
    have hi2 : i < (viewP M ps).length := by rw [viewP_length]; omega
    obtain ⟨c1, c2⟩ := h2.get i (by simpa using hi2)
    have := (q3 i hi2 hi).cells (by simpa using c1)
    rw [this.1]; simpa using c2
  have hzl : ti.z.toArray.size = ti.sz := by simpa using ht.z
  have hzc : ti.zero.cells.size = ti.sz := ht.zc
  obtain ⟨arr, a1, a2, a3, a4⟩ := fill_list ti.sz (vs.toList.map (·.2)) 0 ((Array.range (n * ti.sz)).map (ti.zero.cells[· % ti.zero.cells.size]!)) (fun v hv => by
      obtain ⟨p, hp, rfl⟩ := List.mem_map.1 hv
      obtain ⟨i, hi, rfl⟩ := List.mem_iff_getElem.1 hp
      exact hvs i hi) (by simp [hn]; rw [← q2]; simp)
  rw [← q1] at a1
  have hrun : (Instr.buildSlice t n vs).run P E.w = .ok (.slice (some ⟨E.w.heap.size, 0, none⟩) n n) (E.w.alloc (.cells arr e)) := by
    simp only [KOk] at hS
    have hm : ¬ n * ti.sz > 2 ^ 24 := by rw [hn]; omega
    by_cases hn0 : n * ti.sz = 0
    · have hn1 : n = 0 := by
        rcases Nat.mul_eq_zero.1 hn0 with h | h <;> omega
      have hvs0 : vs.toList = [] := List.eq_nil_of_length_eq_zero (by omega)
      rw [hvs0] at a1
      simp only [Instr.fill, Option.some.injEq] at a1
      subst a1
      subst hn1
      obtain rfl : vs = #[] := Array.toList_eq_nil_iff.1 hvs0
      simp [Instr.buildSlice, run_underlying hS, ht.run_size, Result.andThen, Instr.fill, newRow]
      have e0 : ∀ f : Nat → Value, (Array.range 0).map f = #[] := fun f => by simp
      rw [e0, e0]
    · simp only [Instr.buildSlice, Sem.run_bind, run_underlying hS, ht.run_size, Result.andThen]
      simp only [hm, hn0, if_false, Sem.run_bind, ht.run_zero, Result.andThen, Sem.run_pure, a1, newRow, run_newObj_alloc]
  have hbel : Below E.w.heap.size E.w (E.w.alloc (.cells arr e)) := (Below.refl _ _).alloc (Nat.le_refl _) _
  obtain ⟨k1, k2⟩ := hg.grow hbel
  refine ⟨_, ⟨E.w.alloc (.cells arr e), E.ad, E.k, E.hid⟩, M, _, hrun, k1, k2, ?_, h3⟩
  have hlen : ((viewP M ps).map (·.2)).length = n := by simp [viewP_length, hn]
  have hcell : (E.w.alloc (.cells arr e)).heap[E.w.heap.size]? = some (.cells arr e) := by
    show (E.w.heap.push (.cells arr e))[E.w.heap.size]? = _
    simp
  have hy : ∀ i, i < n → ∀ j, j < ti.sz → ∃ hi : i < (viewP M ps).length, ∃ hj : j < (viewP M ps)[i].2.cells.length, ∃ y, arr[i * ti.sz + j]? = some y ∧ One y ∧ Rep E ((viewP M ps)[i].2.cells[j]) y := fun i hi j hj => by
    have hi1 : i < (viewP M ps).length := by rw [viewP_length]; omega
    have hi2 : i < vs.toList.length := by rw [viewP_length] at hi1; omega
    obtain ⟨c1, c2⟩ := h2.get i (by simpa using hi1)
    simp only [List.getElem_map] at c1 c2
    obtain ⟨g1, g2⟩ := (q3 i hi1 hi2).cells c1
    have hj1 : j < (viewP M ps)[i].2.cells.length := by rw [c2]; exact hj
    have hj2 : j < (vs.toList[i].2).cells.size := by rw [g1]; exact hj1
    refine ⟨hi1, hj1, (vs.toList[i].2).cells[j], ?_, (g2 j hj1 hj2).1, (g2 j hj1 hj2).2⟩
    have := a4 i (by simpa using hi2) j hj
    simp only [Nat.zero_add, List.getElem_map] at this
    rw [this]; simp
  have hres := Rep.l (E := ⟨E.w.alloc (.cells arr e), E.ad, E.k, E.hid⟩) ti.sz ((viewP M ps).map (·.2)) E.w.heap.size 0 n (fun i j => (arr[i * ti.sz + j]?).getD undef) (by rw [hlen]; exact Nat.le_refl _)
    ⟨(by show E.w.heap.size < (E.w.heap.push (.cells arr e)).size; simp), fun h => by have := hg.old _ h; have := hg.below.size; omega, fun i q hq hcp e => by have := (hg.lt_b' hq hcp).2; omega⟩
    (fun i hi => (h2.get i hi).2) (fun i j hi hj => by
      rw [hlen] at hi
      obtain ⟨_, _, y, y1, y2, _⟩ := hy i hi j hj
      refine ⟨?_, by rw [y1]; exact y2⟩
      simp only [World.cell?, hcell, Option.isSome_none, Bool.false_eq_true, if_false, Nat.zero_add, y1, Option.getD_some]) (fun i hi j hj => by
      have hi' : i < n := by rw [← hlen]; exact hi
      have hj' : j < ti.sz := by rw [← (h2.get i hi).2]; exact hj
      obtain ⟨_, _, y, y1, _, y3⟩ := hy i hi' j hj'
      simp only [List.getElem_map] at hj ⊢
      rw [y1]
      exact y3.later k2)
  rw [hlen] at hres
  exact hres
end Go.Ab
