/- Operations on values: literals of structs and slices, make. -/
import Derived.Test.YtpjmbigfgoogaacAb9
set_option linter.unusedVariables false
set_option linter.unusedSimpArgs false
set_option linter.constructorNameAsVariable false
namespace Go.Ab
open Go Go.RowKit

def AllVP (M : Mem) : List (Nat × AV) → Prop
  | [] => True
  | (_, a) :: r => VOkA M a ∧ AllVP M r
def viewP (M : Mem) : List (Nat × AV) → List (Nat × AV)
  | [] => []
  | (i, a) :: r => (i, viewA M a) :: viewP M r
def idsP : List (Nat × AV) → List Nat
  | [] => []
  | (_, a) :: r => idsA a ++ idsP r
theorem rep_viewP {w0 : World} {E : Env} {M : Mem} (hg : Good w0 E M) {ids : List Nat} : ∀ (ps : List (Nat × AV)) (vs : List (Nat × Value)), RepP E ps vs → AllVP M ps → (∀ id ∈ idsP ps, id ∈ ids) → RepP (E.without ids) (viewP M ps) vs
  | [], [], _, _, _ => trivial
  | (i, a) :: r, (j, v) :: s, h, hv, hi => ⟨h.1, rep_viewA hg h.2.1 hv.1 (fun id hid => hi id (by simp [idsP, hid])), rep_viewP hg r s h.2.2 hv.2 (fun id hid => hi id (by simp [idsP, hid]))⟩
  | [], _ :: _, h, _, _ => h.elim
  | _ :: _, [], h, _, _ => h.elim

def AllKnown (tab : Tab) : List (Nat × TypeId) → Prop
  | [] => True
  | (_, t) :: r => (∃ ti, assoc tab t = some ti) ∧ AllKnown tab r
/-- A struct's literal. -/
def buildK (tab : Tab) (ti : TI) (fs : List (Nat × TypeId)) (M : Mem) (ps : List (Nat × AV)) (K : AV → Mem → Prop) : Prop :=
  AllKnown tab fs ∧ AllVP M ps ∧ fillA tab fs (ti.z.map .c) (viewP M ps) fun cs => K (.g cs) (M.without (idsP ps))

theorem places_of {P : Program} {tab : Tab} (hT : TabOk P tab) : ∀ (fields : List Field), AllKnown tab (fields.map fun f => (f.offset, f.type)) →
    ∃ places, fields.mapM (fun f => (P.info? f.type).map fun i => (f.offset, i.size)) = some places ∧
      ∀ i ti, i < fields.length → assoc tab ((fields.map fun f => (f.offset, f.type)).getD i (0, 0)).2 = some ti → places[i]? = some (((fields.map fun f => (f.offset, f.type)).getD i (0, 0)).1, ti.sz)
  | [], _ => ⟨[], rfl, fun i ti h _ => absurd h (by simp)⟩
  | f :: r, h => by
    obtain ⟨⟨ti0, h0⟩, h1⟩ := h
    obtain ⟨places, p1, p2⟩ := places_of hT r h1
    obtain ⟨g, g1, g2, g3, g4⟩ := (hT _ _ h0).ex
    refine ⟨(f.offset, ti0.sz) :: places, by simp [List.mapM_cons, g1, g3, p1], fun i ti hi ha => ?_⟩
    cases i with
    | zero =>
      simp only [List.map_cons, List.getD_cons_zero] at ha ⊢
      rw [h0] at ha
      cases ha
      rfl
    | succ i =>
      simp only [List.map_cons, List.getD_cons_succ, List.getElem?_cons_succ] at ha ⊢
      exact p2 i ti (by simpa using hi) ha

theorem build_out {P : Program} {w0 : World} {E : Env} {M : Mem} {tab : Tab} {t : TypeId} {ti : TI} {fs : List (Nat × TypeId)} {ps : List (Nat × AV)} {vs : Array (Nat × Value)} {K : AV → Mem → Prop}
    (hg : Good w0 E M) (hT : TabOk P tab) (ht : TOk P t ti) (hk : ti.k = .st fs) (hr : RepP E ps vs.toList) (h : buildK tab ti fs M ps K) : Out P w0 E (Instr.build t vs) K := by
  obtain ⟨h1, h2, h3⟩ := h
  have hS := ht.k
  rw [hk] at hS
  obtain ⟨A, hA, hfs⟩ := hS
  obtain ⟨hg', hl⟩ := hg.without (idsP ps)
  obtain ⟨places, p1, p2⟩ := places_of hT A.toList (by rw [hfs]; exact h1)
  obtain ⟨f, g1, g2, g3, g4⟩ := ht.ex
  have hz : ti.zero = .agg ti.z.toArray := by simp [TI.zero, hk, TK.agg]
  obtain ⟨cs, ys, f1, f2, f3, f4⟩ := fill_rep (E := E.without (idsP ps)) hT (fs := fs) (place := (places.toArray[·]?)) (fun i ti hi ha => by
      subst hfs
      simpa using p2 i ti (by simpa using hi) ha) (viewP M ps) vs.toList (ti.z.map .c) ti.z.toArray (rep_viewP hg ps vs.toList hr h2 (fun _ h => h)) (by simp) (fun i h1 h2 => by
      simp only [List.getElem_map, List.getElem_toArray]
      exact .c _ (ht.one _ (List.getElem_mem _))) h3
  have hb : P.built t vs.toList = some ys := by
    unfold Program.built
    rw [g1, hA]
    simp only [g2, p1, hz, Value.cells]
    exact f1
  exact ⟨.agg ys, E.without (idsP ps), M.without (idsP ps), .g cs, run_build E.w t vs ys hb, hg', hl, .g cs ys f2 f3, f4⟩

/-- A slice's literal: all its elements. -/
def AllSz (sz : Nat) : List AV → Prop
  | [] => True
  | a :: r => Cells a ∧ a.cells.length = sz ∧ AllSz sz r
theorem AllSz.get {sz : Nat} : ∀ {l : List AV}, AllSz sz l → ∀ i (h : i < l.length), Cells l[i] ∧ l[i].cells.length = sz
  | a :: r, h, 0, _ => ⟨h.1, h.2.1⟩
  | a :: r, h, i + 1, hi => h.2.2.get i (by simpa using hi)
theorem without_k (M : Mem) (ids : List Nat) : (M.without ids).k = M.k := by
  induction ids generalizing M with
  | nil => rfl
  | cons id r ih => simp only [Mem.without]; rw [ih]; rfl
def sliceK (e : TypeId) (ti : TI) (M : Mem) (ps : List (Nat × AV)) (K : AV → Mem → Prop) : Prop :=
  AllVP M ps ∧ 0 < ti.sz ∧ ps.length * ti.sz ≤ 16777216 ∧ AllSz ti.sz ((viewP M ps).map (·.2)) ∧
    K (.s M.k 0 ps.length) (newMem (M.without (idsP ps)) ⟨e, ti.sz, (viewP M ps).map (·.2)⟩)

theorem fill_list (sz : Nat) : ∀ (vs : List Value) (i0 : Nat) (arr : Array Value), (∀ v ∈ vs, v.cells.size = sz) → (i0 + vs.length) * sz ≤ arr.size →
    ∃ arr', Instr.fill (fun i => some (i * sz, sz)) arr ((vs.zipIdx i0).map fun p => (p.2, p.1)) = some arr' ∧ arr'.size = arr.size ∧
      (∀ k, k < i0 * sz → arr'[k]? = arr[k]?) ∧ ∀ i (hi : i < vs.length) j, j < sz → arr'[(i0 + i) * sz + j]? = vs[i].cells[j]?
  | [], i0, arr, _, _ => ⟨arr, rfl, rfl, fun _ _ => rfl, fun i hi => absurd hi (by simp)⟩
  | v :: r, i0, arr, h, hle => by
    have hv := h v (by simp)
    have e1 : (i0 + (v :: r).length) * sz = i0 * sz + sz + r.length * sz := by simp only [List.length_cons, Nat.add_mul]; omega
    have hvl : v.cells.toList.length = sz := by simpa using hv
    have hfold : v.cells.zipIdx.foldl (fun cs x => cs.setIfInBounds (i0 * sz + x.2) x.1) arr = (v.cells.toList.zipIdx 0).foldl (fun cs p => cs.setIfInBounds (i0 * sz + p.2) p.1) arr := by
      rw [← Array.foldl_toList, Array.toList_zipIdx]
    obtain ⟨arr', a1, a2, a3, a4⟩ := fill_list sz r (i0 + 1) ((v.cells.toList.zipIdx 0).foldl (fun cs p => cs.setIfInBounds (i0 * sz + p.2) p.1) arr) (fun u hu => h u (by simp [hu]))
      (by rw [fold_size]; simp only [Nat.add_mul] at hle ⊢; simp only [List.length_cons, Nat.add_mul] at hle; omega)
    have hget := fun k => fold_get? (i0 * sz) v.cells.toList 0 arr k (by omega)
    refine ⟨arr', ?_, by rw [a2, fold_size], fun k hk => ?_, fun i hi j hj => ?_⟩
    · simp only [List.zipIdx_cons, List.map_cons, Instr.fill]
      rw [if_neg (by simp only [Bool.or_eq_true, decide_eq_true_eq, not_or]; omega), hfold]
      exact a1
    · rw [a3 k (by rw [Nat.add_mul]; omega), hget k, if_neg (by omega)]
    · cases i with
      | zero =>
        simp only [Nat.add_zero, List.getElem_cons_zero]
        rw [a3 _ (by rw [Nat.add_mul]; omega), hget, if_pos (by omega)]
        have : i0 * sz + j - (i0 * sz + 0) = j := by omega
        rw [this]; simp
      | succ i =>
        have e2 : i0 + (i + 1) = i0 + 1 + i := by omega
        rw [e2]
        exact a4 i (by simpa using hi) j hj

theorem repP_map {E : Env} : ∀ (ps : List (Nat × AV)) (vs : List (Nat × Value)) (i0 : Nat), RepP E ps vs → ps.map (·.1) = List.range' i0 ps.length →
    vs = ((vs.map (·.2)).zipIdx i0).map (fun p => (p.2, p.1)) ∧ vs.length = ps.length ∧ ∀ i (h1 : i < ps.length) (h2 : i < vs.length), Rep E ps[i].2 vs[i].2
  | [], [], _, _, _ => ⟨rfl, rfl, fun i h => absurd h (by simp)⟩
  | (i, a) :: r, (j, v) :: s, i0, h, he => by
    obtain ⟨rfl, h1, h2⟩ := h
    simp only [List.map_cons, List.length_cons, List.range'_succ, List.cons.injEq] at he
    obtain ⟨g1, g2, g3⟩ := repP_map r s (i0 + 1) h2 he.2
    refine ⟨?_, by simp [g2], fun k h3 h4 => ?_⟩
    · simp only [List.map_cons, List.zipIdx_cons, he.1]
      rw [← g1]
    · cases k with
      | zero => exact h1
      | succ k => exact g3 k (by simpa using h3) (by simpa using h4)
  | [], _ :: _, _, h, _ => h.elim
  | _ :: _, [], _, h, _ => h.elim
theorem viewP_length (M : Mem) : ∀ ps, (viewP M ps).length = ps.length
  | [] => rfl
  | (_, _) :: r => by simp [viewP, viewP_length M r]
theorem viewP_fst (M : Mem) : ∀ ps, (viewP M ps).map (·.1) = ps.map (·.1)
  | [] => rfl
  | (_, _) :: r => by simp [viewP, viewP_fst M r]

theorem bslice_out {P : Program} {w0 : World} {E : Env} {M : Mem} {t e : TypeId} {ti : TI} {n : Nat} {ps : List (Nat × AV)} {vs : Array (Nat × Value)} {K : AV → Mem → Prop}
    (hg : Good w0 E M) (hS : KOk P t (.sl e)) (ht : TOk P e ti) (hr : RepP E ps vs.toList) (hn : n = ps.length) (hix : ps.map (·.1) = List.range' 0 ps.length) (h : sliceK e ti M ps K) : Out P w0 E (Instr.buildSlice t n vs) K := by
  obtain ⟨h1, hsz, hmax, h2, h3⟩ := h
  obtain ⟨hg', hl⟩ := hg.without (idsP ps)
  have hrv := rep_viewP (ids := idsP ps) hg ps vs.toList hr h1 (fun _ h => h)
  obtain ⟨q1, q2, q3⟩ := repP_map (viewP M ps) vs.toList 0 hrv (by rw [viewP_fst, viewP_length]; exact hix)
  rw [viewP_length] at q2
  have hvs : ∀ i (hi : i < vs.toList.length), (vs.toList[i].2).cells.size = ti.sz := fun i hi => by
    have hi2 : i < (viewP M ps).length := by rw [viewP_length]; omega
    obtain ⟨c1, c2⟩ := h2.get i (by simpa using hi2)
    have := (q3 i hi2 hi).cells (by simpa using c1)
    rw [this.1]; simpa using c2
  have hzl : ti.z.toArray.size = ti.sz := by simpa using ht.z
  have hzc : ti.zero.cells.size = ti.sz := ht.zc
  obtain ⟨arr, a1, a2, a3, a4⟩ := fill_list ti.sz (vs.toList.map (·.2)) 0 ((Array.range (n * ti.sz)).map (ti.zero.cells[· % ti.zero.cells.size]!)) (fun v hv => by
      obtain ⟨p, hp, rfl⟩ := List.mem_map.1 hv
      obtain ⟨i, hi, rfl⟩ := List.mem_iff_getElem.1 hp
      exact hvs i hi) (by simp [hn]; rw [← q2]; simp)
  rw [← q1] at a1
  have hrun : (Instr.buildSlice t n vs).run P E.w = .ok (.slice (some ⟨E.w.heap.size, 0, none⟩) n n) (E.w.alloc (.cells arr e)) := by
    simp only [KOk] at hS
    have hm : ¬ n * ti.sz > 2 ^ 24 := by rw [hn]; omega
    by_cases hn0 : n * ti.sz = 0
    · have hn1 : n = 0 := by
        rcases Nat.mul_eq_zero.1 hn0 with h | h <;> omega
      have hvs0 : vs.toList = [] := List.eq_nil_of_length_eq_zero (by omega)
      rw [hvs0] at a1
      simp only [Instr.fill, Option.some.injEq] at a1
      subst a1
      subst hn1
      obtain rfl : vs = #[] := Array.toList_eq_nil_iff.1 hvs0
      simp [Instr.buildSlice, run_underlying hS, ht.run_size, Result.andThen, Instr.fill, newRow]
      have e0 : ∀ f : Nat → Value, (Array.range 0).map f = #[] := fun f => by simp
      rw [e0, e0]
    · simp only [Instr.buildSlice, Sem.run_bind, run_underlying hS, ht.run_size, Result.andThen]
      simp only [hm, hn0, if_false, Sem.run_bind, ht.run_zero, Result.andThen, Sem.run_pure, a1, newRow, run_newObj_alloc]
  have hnew := Good.new hg' (E.w.alloc (.cells arr e)) e ti.sz n ((viewP M ps).map (·.2)) arr rfl rfl rfl rfl (by rw [a2]; simp) (by simp [viewP_length, hn]) (by
      have : n ≤ n * ti.sz := Nat.le_mul_of_pos_right _ hsz
      simp only [maxLen]; rw [← hn] at hmax; omega) (fun i hi => by
      have hi1 : i < (viewP M ps).length := by simpa using hi
      have hi2 : i < vs.toList.length := by rw [viewP_length] at hi1; omega
      obtain ⟨c1, c2⟩ := h2.get i hi
      refine ⟨c2, fun j hj => ?_⟩
      simp only [List.getElem_map] at c1 c2 hj ⊢
      obtain ⟨g1, g2⟩ := (q3 i hi1 hi2).cells c1
      have hj2 : j < (vs.toList[i].2).cells.size := by rw [g1]; exact hj
      refine ⟨(vs.toList[i].2).cells[j], ?_, (g2 j hj hj2).1, (g2 j hj hj2).2⟩
      have := a4 i (by simpa using hi2) j (by rw [← c2]; exact hj)
      simp only [Nat.zero_add, List.getElem_map] at this
      rw [this]; simp)
  refine ⟨_, _, _, _, hrun, hnew.1, hl.trans hnew.2, .s E.k 0 n _ _ (by show E.k < E.k + 1; omega) (fun q hq => ?_), ?_⟩
  · have hke : (E.without (idsP ps)).k = E.k := rfl
    rw [hke] at hq
    simp only [upd_self, Option.some.injEq] at hq
    subst hq
    simp only [List.length_map, viewP_length]
    exact ⟨by omega, fun _ => ⟨by omega, fun _ => by simp [Env.without]⟩⟩
  · rw [← hg.k, hn]
    rw [without_k] 
    simpa [newMem, without_k] using h3
end Go.Ab
