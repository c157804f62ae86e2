/- Operations on values: fields, literals, slices, lengths, conversions, tests. .. -/
import Derived.Test.YtkikaagieknpdaaGreatAbG1
import Derived.Lib.ConvBytes
import Derived.Laws.BytesArg
import Derived.Lib.SlBytesConst
import Derived.Deep.LoopGhost
set_option linter.unusedVariables false
set_option linter.unusedSimpArgs false
set_option linter.constructorNameAsVariable false
namespace Go.Ab
open Go Go.RowKit
theorem Out.mono {P : Program} {w0 : World} {E : Env} {s : Sem Value} {K K' : AV → Mem → Prop} (h : Out P w0 E s K) (hk : ∀ a M, K a M → K' a M) : Out P w0 E s K' := by
 obtain ⟨v, E', M', a, h1, h2, h3, h4, h5⟩ := h
 exact ⟨v, E', M', a, h1, h2, h3, h4, hk _ _ h5⟩
def fieldVK (fs : List (Nat × TypeId)) (ti : TI) (f : Nat) : AV → (AV → Prop) → Prop
 | .g cs, K => (fs.getD f (0, 0)).1 + ti.sz ≤ cs.length ∧ (fs.getD f (0, 0)).1 < cs.length ∧ K (part ti (cs.drop (fs.getD f (0, 0)).1))
 | _, _ => False
theorem part_run {P : Program} {E : Env} {t : TypeId} {ti : TI} (ht : TOk P t ti) (ho : ti.k.known = true) {cs : List AV} {ys : Array Value} {o : Nat} (hl : ys.size = cs.length)
 (hr : ∀ i (h1 : i < cs.length) (h2 : i < ys.size), Rep E cs[i] ys[i]) (h1 : o + ti.sz ≤ cs.length) (h2 : o < cs.length) :
 ∃ v, (Go.part t ys o).run P E.w = .ok v E.w ∧ Rep E (part ti (cs.drop o)) v := by
 unfold part
 cases ha : ti.k.agg with
 | true =>
  refine ⟨_, by simp only [Go.part, Sem.run_bind, ht.run_agg ho, ha, Result.andThen, if_true, ht.run_size, Sem.run_pure]; rfl, ?_⟩
  refine .g _ _ (by simp; omega) (fun k h3 h4 => ?_)
  simp only [List.getElem_take, List.getElem_drop, Array.getElem_extract]
  exact hr _ _ _
 | false =>
  have h3 : o < ys.size := by omega
  refine ⟨ys[o], by simp [Go.part, ht.run_agg ho, ha, Result.andThen, h3], ?_⟩
  have : (cs.drop o).headD .x = cs[o] := by
   rw [List.drop_eq_getElem_cons h2]; rfl
  simp only [cond_false, this]
  exact hr _ _ _
theorem fieldV_out {P : Program} {w0 : World} {E : Env} {M : Mem} {S : TypeId} {fs : List (Nat × TypeId)} {ti : TI} {f : Nat} {a : AV} {v : Value} {K : AV → Mem → Prop} (hg : Good w0 E M)
 (hS : KOk P S (.st fs)) (hf : f < fs.length) (ht : TOk P (fs.getD f (0, 0)).2 ti) (ho : ti.k.known = true) (hr : Rep E a v) (h : fieldVK fs ti f a fun a => K a M) : Out P w0 E (Instr.field S v f) K := by
 obtain ⟨A, hA, hfs⟩ := hS
 have hfl : f < A.size := by rw [← hfs] at hf; simpa using hf
 have hfd : fs.getD f (0, 0) = (A[f].offset, A[f].type) := by
  subst hfs
  simp [List.getD, hfl]
 rw [hfd] at ht
 cases hr <;> try exact h.elim
 rename_i cs ys hl hr
 obtain ⟨h1, h2, hK⟩ := h
 rw [hfd] at h1 h2 hK
 obtain ⟨v, hv, hrv⟩ := part_run (P := P) (E := E) ht ho hl hr h1 h2
 exact .val hg (by simp only [Instr.field, Sem.run_bind, run_underlying hA, Result.andThen, Array.getElem?_eq_getElem hfl, asAgg, Sem.run_pure]; exact hv) hrv hK
def extractK (i : Nat) : AV → (AV → Prop) → Prop
 | .t vs, K => Elem vs i K
 | _, _ => False
theorem extract_out {P : Program} {w0 : World} {E : Env} {M : Mem} {i : Nat} {a : AV} {v : Value} {K : AV → Mem → Prop} (hg : Good w0 E M) (hr : Rep E a v) (h : extractK i a fun a => K a M) :
 Out P w0 E (Instr.extract v i) K := by
 cases hr <;> try exact h.elim
 rename_i cs ys hl hr
 obtain ⟨hi, hK⟩ := h
 have hi2 : i < ys.size := by omega
 exact .val hg (by simp [Instr.extract, hi2]) (hr i hi hi2) hK
def lenK : TK → AV → (AV → Prop) → Prop
 | .sl _, .s _ _ n, K => K (.c (.int .i64 n))
 | .sl _, .l _ xs, K => K (.c (.int .i64 xs.length))
 | .sl _, .c (.slice _ n _), K => K (.c (.int .i64 n))
 | .str, .c (.string s), K => K (.c (.int .i64 s.size))
 | _, _, _ => False
theorem len_out {P : Program} {w0 : World} {E : Env} {M : Mem} {t ty : TypeId} {k : TK} {a : AV} {v : Value} {K : AV → Mem → Prop} (hg : Good w0 E M)
 (ht : KOk P t k) (hr : Rep E a v) (h : lenK k a fun a => K a M) : Out P w0 E (Builtin.len_ #[t] ty #[v]) K := by
 have e1 : ∀ s, P.underlying t = some .string → (Builtin.len_ #[t] ty #[.string s]).run P E.w = .ok (.int .i64 s.size) E.w := fun s h => by
  simp [Builtin.len_, run_underlying h, goInt]
 have e2 : ∀ A n c e, P.underlying t = some (.slice e) → (Builtin.len_ #[t] ty #[.slice A n c]).run P E.w = .ok (.int .i64 n) E.w := fun A n c e h => by
  simp [Builtin.len_, run_underlying h, goInt]
 cases k <;> try exact h.elim
 · -- a text
   cases hr <;> try exact h.elim
   cases v <;> first | exact h.elim | exact .val hg (e1 _ ht) (.c _ rfl) h
 · cases hr <;> try exact h.elim
   case c => cases v <;> first | exact h.elim | exact .val hg (e2 _ _ _ _ ht) (.c _ rfl) h
   all_goals exact .val hg (e2 _ _ _ _ ht) (.c _ rfl) h
def fillA (tab : Tab) (fs : List (Nat × TypeId)) : List AV → List (Nat × AV) → (List AV → Prop) → Prop
 | cs, [], K => K cs
 | cs, (i, a) :: r, K => i < fs.length ∧ (∃ ti, assoc tab (fs.getD i (0, 0)).2 = some ti ∧ a.cells.length = ti.sz ∧ (fs.getD i (0, 0)).1 + ti.sz ≤ cs.length) ∧ Cells a ∧
  fillA tab fs (splice cs (fs.getD i (0, 0)).1 a.cells) r K
theorem fold_get? (off : Nat) : ∀ (l : List Value) (n : Nat) (cs : Array Value) (k : Nat), off + n + l.length ≤ cs.size →
 ((l.zipIdx n).foldl (fun cs p => cs.setIfInBounds (off + p.2) p.1) cs)[k]? = if off + n ≤ k ∧ k < off + n + l.length then l[k - (off + n)]? else cs[k]?
 | [], n, cs, k, _ => by rw [if_neg (by simp only [List.length_nil]; omega)]; rfl
 | v :: r, n, cs, k, h => by
  simp only [List.zipIdx_cons, List.foldl_cons, List.length_cons] at h ⊢
  rw [fold_get? off r (n + 1) _ k (by simp; omega)]
  by_cases h1 : k = off + n
  · subst h1
    rw [if_neg (by omega), if_pos (by omega)]
    simp only [Array.getElem?_setIfInBounds, if_true, Nat.sub_self, List.getElem?_cons_zero]
    rw [if_pos (by omega)]
  · by_cases h2 : off + n ≤ k ∧ k < off + n + (r.length + 1)
    · rw [if_pos h2, if_pos (by omega)]
      have : k - (off + n) = (k - (off + (n + 1))) + 1 := by omega
      rw [this, List.getElem?_cons_succ]
    · rw [if_neg h2, if_neg (by omega)]
      simp only [Array.getElem?_setIfInBounds]
      rw [if_neg (by omega)]
theorem fold_size (off : Nat) : ∀ (l : List Value) (n : Nat) (cs : Array Value), ((l.zipIdx n).foldl (fun cs p => cs.setIfInBounds (off + p.2) p.1) cs).size = cs.size
 | [], n, cs => rfl
 | v :: r, n, cs => by simp [List.zipIdx_cons, fold_size off r (n + 1)]
def RepP (E : Env) : List (Nat × AV) → List (Nat × Value) → Prop
 | [], [] => True
 | (i, a) :: r, (j, v) :: s => i = j ∧ Rep E a v ∧ RepP E r s
 | _, _ => False
theorem fill_rep {P : Program} {E : Env} {tab : Tab} (hT : TabOk P tab) {fs : List (Nat × TypeId)} {place : Nat → Option (Nat × Nat)}
 (hp : ∀ i ti, i < fs.length → assoc tab (fs.getD i (0, 0)).2 = some ti → place i = some ((fs.getD i (0, 0)).1, ti.sz)) {K : List AV → Prop} :
 ∀ (ps : List (Nat × AV)) (vs : List (Nat × Value)) (cs : List AV) (ys : Array Value), RepP E ps vs → ys.size = cs.length → (∀ i (h1 : i < cs.length) (h2 : i < ys.size), Rep E cs[i] ys[i]) →
  fillA tab fs cs ps K → ∃ cs' ys', Instr.fill place ys vs = some ys' ∧ ys'.size = cs'.length ∧ (∀ i (h1 : i < cs'.length) (h2 : i < ys'.size), Rep E cs'[i] ys'[i]) ∧ K cs'
 | [], [], cs, ys, _, hl, hr, h => ⟨cs, ys, rfl, hl, hr, h⟩
 | (i, a) :: r, (j, v) :: s, cs, ys, hrp, hl, hr, h => by
  obtain ⟨rfl, hav, hrs⟩ := hrp
  obtain ⟨hi, ⟨ti, hti, hsz, hle⟩, hc, h⟩ := h
  obtain ⟨g1, g2⟩ := hav.cells hc
  have hpl := hp i ti hi hti
  obtain ⟨o, ho⟩ : ∃ o, o = (fs.getD i (0, 0)).1 := ⟨_, rfl⟩
  rw [← ho] at hpl hle h
  have hvl : v.cells.toList.length = v.cells.size := by simp
  have hfit : o + a.cells.length ≤ cs.length := by omega
  have hfold : v.cells.zipIdx.foldl (fun cs x => cs.setIfInBounds (o + x.2) x.1) ys = (v.cells.toList.zipIdx 0).foldl (fun cs p => cs.setIfInBounds (o + p.2) p.1) ys := by
   rw [← Array.foldl_toList, Array.toList_zipIdx]
  obtain ⟨cs', ys', f1, f2, f3, f4⟩ := fill_rep hT hp r s (splice cs o a.cells) ((v.cells.toList.zipIdx 0).foldl (fun cs p => cs.setIfInBounds (o + p.2) p.1) ys) hrs
   (by rw [fold_size, splice_length hfit, hl]) (fun k h1 h2 => by
    have h3 : k < cs.length := by rw [splice_length hfit] at h1; exact h1
    have h4 := fold_get? o v.cells.toList 0 ys k (by omega)
    rw [splice_get hfit h1 h3]
    rw [Array.getElem?_eq_getElem h2] at h4
    split
    · rename_i hin
      rw [if_pos (by omega)] at h4
      have h5 : k - o < v.cells.size := by omega
      have h6 := (g2 (k - o) (by omega) h5).2
      have h7 : v.cells.toList[k - (o + 0)]? = some v.cells[k - o] := by simp [h5]
      rw [h7] at h4
      injection h4 with h4
      rw [h4]; exact h6
    · rename_i hin
      rw [if_neg (by omega)] at h4
      have h5 : k < ys.size := by omega
      rw [Array.getElem?_eq_getElem h5] at h4
      injection h4 with h4
      rw [h4]; exact hr k h3 h5) h
  refine ⟨cs', ys', ?_, f2, f3, f4⟩
  rw [Instr.fill, hpl]
  simp only
  rw [if_neg (by simp only [Bool.or_eq_true, decide_eq_true_eq, not_or]; omega), hfold]
  exact f1
 | [], _ :: _, _, _, h, _, _, _ => h.elim
 | _ :: _, [], _, _, h, _, _, _ => h.elim
end Go.Ab
namespace Go.Ab
open Go Go.RowKit
def AllVP (M : Mem) : List (Nat × AV) → Prop
 | [] => True
 | (_, a) :: r => VOkA M a ∧ AllVP M r
def viewP (M : Mem) : List (Nat × AV) → List (Nat × AV)
 | [] => []
 | (i, a) :: r => (i, viewA M a) :: viewP M r
def idsP : List (Nat × AV) → List Nat
 | [] => []
 | (_, a) :: r => idsA a ++ idsP r
theorem rep_viewP {w0 : World} {E : Env} {M : Mem} (hg : Good w0 E M) {ids : List Nat} : ∀ (ps : List (Nat × AV)) (vs : List (Nat × Value)), RepP E ps vs → AllVP M ps → (∀ id ∈ idsP ps, id ∈ ids) → RepP (E.without ids) (viewP M ps) vs
 | [], [], _, _, _ => trivial
 | (i, a) :: r, (j, v) :: s, h, hv, hi => ⟨h.1, rep_viewA hg h.2.1 hv.1 (fun id hid => hi id (by simp [idsP, hid])), rep_viewP hg r s h.2.2 hv.2 (fun id hid => hi id (by simp [idsP, hid]))⟩
 | [], _ :: _, h, _, _ => h.elim
 | _ :: _, [], h, _, _ => h.elim
def AllKnown (tab : Tab) : List (Nat × TypeId) → Prop
 | [] => True
 | (_, t) :: r => (∃ ti, assoc tab t = some ti) ∧ AllKnown tab r
def buildK (tab : Tab) (ti : TI) (fs : List (Nat × TypeId)) (M : Mem) (ps : List (Nat × AV)) (K : AV → Mem → Prop) : Prop :=
 AllKnown tab fs ∧ fillA tab fs (ti.z.map .c) ps fun cs => K (.g cs) M
theorem places_of {P : Program} {tab : Tab} (hT : TabOk P tab) : ∀ (fields : List Field), AllKnown tab (fields.map fun f => (f.offset, f.type)) →
 ∃ places, fields.mapM (fun f => (P.info? f.type).map fun i => (f.offset, i.size)) = some places ∧
  ∀ i ti, i < fields.length → assoc tab ((fields.map fun f => (f.offset, f.type)).getD i (0, 0)).2 = some ti → places[i]? = some (((fields.map fun f => (f.offset, f.type)).getD i (0, 0)).1, ti.sz)
 | [], _ => ⟨[], rfl, fun i ti h _ => absurd h (by simp)⟩
 | f :: r, h => by
  obtain ⟨⟨ti0, h0⟩, h1⟩ := h
  obtain ⟨places, p1, p2⟩ := places_of hT r h1
  obtain ⟨g, g1, g2, g3, g4⟩ := (hT _ _ h0).ex
  refine ⟨(f.offset, ti0.sz) :: places, by simp [List.mapM_cons, g1, g3, p1], fun i ti hi ha => ?_⟩
  cases i with
  | zero =>
   simp only [List.map_cons, List.getD_cons_zero] at ha ⊢
   rw [h0] at ha
   cases ha
   rfl
  | succ i =>
   simp only [List.map_cons, List.getD_cons_succ, List.getElem?_cons_succ] at ha ⊢
   exact p2 i ti (by simpa using hi) ha
theorem build_out {P : Program} {w0 : World} {E : Env} {M : Mem} {tab : Tab} {t : TypeId} {ti : TI} {fs : List (Nat × TypeId)} {ps : List (Nat × AV)} {vs : Array (Nat × Value)} {K : AV → Mem → Prop}
 (hg : Good w0 E M) (hT : TabOk P tab) (ht : TOk P t ti) (hk : ti.k = .st fs) (hr : RepP E ps vs.toList) (h : buildK tab ti fs M ps K) : Out P w0 E (Instr.build t vs) K := by
 obtain ⟨h1, h3⟩ := h
 have hS := ht.k
 rw [hk] at hS
 obtain ⟨A, hA, hfs⟩ := hS
 obtain ⟨places, p1, p2⟩ := places_of hT A.toList (by rw [hfs]; exact h1)
 obtain ⟨f, g1, g2, g3, g4⟩ := ht.ex
 have hz : ti.zero = .agg ti.z.toArray := by simp [TI.zero, hk, TK.agg]
 obtain ⟨cs, ys, f1, f2, f3, f4⟩ := fill_rep (E := E) hT (fs := fs) (place := (places.toArray[·]?)) (fun i ti hi ha => by
  subst hfs
  simpa using p2 i ti (by simpa using hi) ha) ps vs.toList (ti.z.map .c) ti.z.toArray hr (by simp) (fun i h1 h2 => by
  simp only [List.getElem_map, List.getElem_toArray]
  exact .c _ (ht.one _ (List.getElem_mem _))) h3
 have hb : P.built t vs.toList = some ys := by
  unfold Program.built
  rw [g1, hA]
  simp only [g2, p1, hz, Value.cells]
  exact f1
 exact ⟨.agg ys, E, M, .g cs, run_build E.w t vs ys hb, hg, .refl E, .g cs ys f2 f3, f4⟩
def AllSz (sz : Nat) : List AV → Prop
 | [] => True
 | a :: r => Cells a ∧ a.cells.length = sz ∧ AllSz sz r
theorem AllSz.get {sz : Nat} : ∀ {l : List AV}, AllSz sz l → ∀ i (h : i < l.length), Cells l[i] ∧ l[i].cells.length = sz
 | a :: r, h, 0, _ => ⟨h.1, h.2.1⟩
 | a :: r, h, i + 1, hi => h.2.2.get i (by simpa using hi)
def sliceK (e : TypeId) (ti : TI) (M : Mem) (ps : List (Nat × AV)) (K : AV → Mem → Prop) : Prop :=
 0 < ti.sz ∧ ps.length * ti.sz ≤ 16777216 ∧ AllSz ti.sz (ps.map (·.2)) ∧ K (.s M.k 0 ps.length) (newMem M ⟨e, ti.sz, ps.map (·.2)⟩)
theorem fill_list (sz : Nat) : ∀ (vs : List Value) (i0 : Nat) (arr : Array Value), (∀ v ∈ vs, v.cells.size = sz) → (i0 + vs.length) * sz ≤ arr.size →
 ∃ arr', Instr.fill (fun i => some (i * sz, sz)) arr ((vs.zipIdx i0).map fun p => (p.2, p.1)) = some arr' ∧ arr'.size = arr.size ∧
  (∀ k, k < i0 * sz → arr'[k]? = arr[k]?) ∧ ∀ i (hi : i < vs.length) j, j < sz → arr'[(i0 + i) * sz + j]? = vs[i].cells[j]?
 | [], i0, arr, _, _ => ⟨arr, rfl, rfl, fun _ _ => rfl, fun i hi => absurd hi (by simp)⟩
 | v :: r, i0, arr, h, hle => by
  have hv := h v (by simp)
  have e1 : (i0 + (v :: r).length) * sz = i0 * sz + sz + r.length * sz := by simp only [List.length_cons, Nat.add_mul]; omega
  have hvl : v.cells.toList.length = sz := by simpa using hv
  have hfold : v.cells.zipIdx.foldl (fun cs x => cs.setIfInBounds (i0 * sz + x.2) x.1) arr = (v.cells.toList.zipIdx 0).foldl (fun cs p => cs.setIfInBounds (i0 * sz + p.2) p.1) arr := by
   rw [← Array.foldl_toList, Array.toList_zipIdx]
  obtain ⟨arr', a1, a2, a3, a4⟩ := fill_list sz r (i0 + 1) ((v.cells.toList.zipIdx 0).foldl (fun cs p => cs.setIfInBounds (i0 * sz + p.2) p.1) arr) (fun u hu => h u (by simp [hu]))
   (by rw [fold_size]; simp only [Nat.add_mul] at hle ⊢; simp only [List.length_cons, Nat.add_mul] at hle; omega)
  have hget := fun k => fold_get? (i0 * sz) v.cells.toList 0 arr k (by omega)
  refine ⟨arr', ?_, by rw [a2, fold_size], fun k hk => ?_, fun i hi j hj => ?_⟩
  · simp only [List.zipIdx_cons, List.map_cons, Instr.fill]
    rw [if_neg (by simp only [Bool.or_eq_true, decide_eq_true_eq, not_or]; omega), hfold]
    exact a1
  · rw [a3 k (by rw [Nat.add_mul]; omega), hget k, if_neg (by omega)]
  · cases i with
    | zero =>
     simp only [Nat.add_zero, List.getElem_cons_zero]
     rw [a3 _ (by rw [Nat.add_mul]; omega), hget, if_pos (by omega)]
     have : i0 * sz + j - (i0 * sz + 0) = j := by omega
     rw [this]; simp
    | succ i =>
     have e2 : i0 + (i + 1) = i0 + 1 + i := by omega
     rw [e2]
     exact a4 i (by simpa using hi) j hj
theorem repP_map {E : Env} : ∀ (ps : List (Nat × AV)) (vs : List (Nat × Value)) (i0 : Nat), RepP E ps vs → ps.map (·.1) = List.range' i0 ps.length →
 vs = ((vs.map (·.2)).zipIdx i0).map (fun p => (p.2, p.1)) ∧ vs.length = ps.length ∧ ∀ i (h1 : i < ps.length) (h2 : i < vs.length), Rep E ps[i].2 vs[i].2
 | [], [], _, _, _ => ⟨rfl, rfl, fun i h => absurd h (by simp)⟩
 | (i, a) :: r, (j, v) :: s, i0, h, he => by
  obtain ⟨rfl, h1, h2⟩ := h
  simp only [List.map_cons, List.length_cons, List.range'_succ, List.cons.injEq] at he
  obtain ⟨g1, g2, g3⟩ := repP_map r s (i0 + 1) h2 he.2
  refine ⟨?_, by simp [g2], fun k h3 h4 => ?_⟩
  · simp only [List.map_cons, List.zipIdx_cons, he.1]
    rw [← g1]
  · cases k with
    | zero => exact h1
    | succ k => exact g3 k (by simpa using h3) (by simpa using h4)
 | [], _ :: _, _, h, _ => h.elim
 | _ :: _, [], _, h, _ => h.elim
theorem viewP_length (M : Mem) : ∀ ps, (viewP M ps).length = ps.length
 | [] => rfl
 | (_, _) :: r => by simp [viewP, viewP_length M r]
theorem viewP_fst (M : Mem) : ∀ ps, (viewP M ps).map (·.1) = ps.map (·.1)
 | [] => rfl
 | (_, _) :: r => by simp [viewP, viewP_fst M r]
def arrK (n : Nat) (te : TI) (M : Mem) (ps : List (Nat × AV)) (K : AV → Mem → Prop) : Prop :=
 te.sz = 1 ∧ n = ps.length ∧ (ps.map fun p => p.1) = List.range' 0 n ∧ AllCell (ps.map (·.2)) ∧ K (.g (ps.map (·.2))) M
theorem one_cells {E : Env} {a : AV} {v : Value} (hr : Rep E a v) (hc : Cell a) : v.cells = #[v] := by
 have h1 := hr.cells (show Cells a by cases a <;> first | exact hc.elim | trivial)
 have hs := h1.1
 have ha : a.cells = [a] := by cases a <;> first | exact hc.elim | rfl
 rw [ha] at hs
 have h2 := h1.2 0 (by simp [ha]) (by rw [hs]; simp)
 cases hr <;> first | exact hc.elim | skip
 all_goals first | rfl | skip
 rename_i h
 cases v <;> first | rfl | (simp [One, Value.oneCell'] at h)
theorem buildA_out {P : Program} {w0 : World} {E : Env} {M : Mem} {t e : TypeId} {ti te : TI} {n : Nat} {ps : List (Nat × AV)} {vs : Array (Nat × Value)} {K : AV → Mem → Prop}
 (hg : Good w0 E M) (ht : TOk P t ti) (hk : ti.k = .ar n e) (hte : TOk P e te) (hn : ti.sz = n) (hr : RepP E ps vs.toList) (h : arrK n te M ps K) : Out P w0 E (Instr.build t vs) K := by
 obtain ⟨hsz, hnl, hix, hcs, hK⟩ := h
 obtain ⟨q1, q2, q3⟩ := repP_map ps vs.toList 0 hr (by rw [hix, hnl])
 have hS := ht.k
 rw [hk] at hS
 obtain ⟨f, g1, g2, g3, g4⟩ := ht.ex
 obtain ⟨f', g1', g2', g3', g4'⟩ := hte.ex
 have hz : ti.zero = .agg ti.z.toArray := by simp [TI.zero, hk, TK.agg]
 have hzc : ti.z.length = n := by rw [ht.z, hn]
 have hc1 : ∀ i (h1 : i < ps.length) (h2 : i < vs.toList.length), (vs.toList[i].2).cells = #[vs.toList[i].2] := fun i h1 h2 => one_cells (q3 i h1 h2) (by
  have := AllCell.get hcs i (by simpa using h1)
  simpa using this)
 obtain ⟨arr', a1, a2, a3, a4⟩ := fill_list 1 (vs.toList.map (·.2)) 0 ti.z.toArray (fun v hv => by
  obtain ⟨p, hp, rfl⟩ := List.mem_map.1 hv
  obtain ⟨i, hi, rfl⟩ := List.getElem_of_mem hp
  rw [hc1 i (by omega) hi]; rfl) (by simp [hzc, q2, hnl])
 have hb : P.built t vs.toList = some arr' := by
  unfold Program.built
  rw [g1, hS]
  simp only [g2, g1', hz, Value.cells, g3', hsz]
  rw [q1]
  exact a1
 refine ⟨.agg arr', E, M, .g (ps.map (·.2)), run_build E.w t vs arr' hb, hg, .refl E, .g _ _ (by rw [a2]; simp [hzc, hnl]) (fun i h1 h2 => ?_), hK⟩
 have hi : i < ps.length := by simpa using h1
 have hi2 : i < vs.toList.length := by omega
 have := a4 i (by simpa using hi2) 0 (by omega)
 simp only [List.getElem_map, Nat.zero_add, Nat.mul_one, Nat.add_zero] at this
 rw [hc1 i hi hi2] at this
 have e : arr'[i] = vs.toList[i].2 := by
  rw [Array.getElem?_eq_getElem h2] at this
  simpa using this
 rw [e, List.getElem_map]
 exact q3 i hi hi2
theorem bslice_out {P : Program} {w0 : World} {E : Env} {M : Mem} {t e : TypeId} {ti : TI} {n : Nat} {ps : List (Nat × AV)} {vs : Array (Nat × Value)} {K : AV → Mem → Prop}
 (hg : Good w0 E M) (hS : KOk P t (.sl e)) (ht : TOk P e ti) (hr : RepP E ps vs.toList) (hn : n = ps.length) (hix : ps.map (·.1) = List.range' 0 ps.length) (h : sliceK e ti M ps K) : Out P w0 E (Instr.buildSlice t n vs) K := by
 obtain ⟨hsz, hmax, h2, h3⟩ := h
 have hrv := hr
 obtain ⟨q1, q2, q3⟩ := repP_map ps vs.toList 0 hrv hix
 have hvs : ∀ i (hi : i < vs.toList.length), (vs.toList[i].2).cells.size = ti.sz := fun i hi => by
  have hi2 : i < ps.length := by omega
  obtain ⟨c1, c2⟩ := h2.get i (by simpa using hi2)
  have := (q3 i hi2 hi).cells (by simpa using c1)
  rw [this.1]; simpa using c2
 have hzl : ti.z.toArray.size = ti.sz := by simpa using ht.z
 have hzc : ti.zero.cells.size = ti.sz := ht.zc
 obtain ⟨arr, a1, a2, a3, a4⟩ := fill_list ti.sz (vs.toList.map (·.2)) 0 ((Array.range (n * ti.sz)).map (ti.zero.cells[· % ti.zero.cells.size]!)) (fun v hv => by
  obtain ⟨p, hp, rfl⟩ := List.mem_map.1 hv
  obtain ⟨i, hi, rfl⟩ := List.mem_iff_getElem.1 hp
  exact hvs i hi) (by simp [hn]; rw [← q2]; simp)
 rw [← q1] at a1
 have hrun : (Instr.buildSlice t n vs).run P E.w = .ok (.slice (some ⟨E.w.heap.size, 0, none⟩) n n) (E.w.alloc (.cells arr e)) := by
  simp only [KOk] at hS
  have hm : ¬ n * ti.sz > 2 ^ 24 := by rw [hn]; omega
  by_cases hn0 : n * ti.sz = 0
  · have hn1 : n = 0 := by
     rcases Nat.mul_eq_zero.1 hn0 with h | h <;> omega
    have hvs0 : vs.toList = [] := List.eq_nil_of_length_eq_zero (by omega)
    rw [hvs0] at a1
    simp only [Instr.fill, Option.some.injEq] at a1
    subst a1
    subst hn1
    obtain rfl : vs = #[] := Array.toList_eq_nil_iff.1 hvs0
    simp [Instr.buildSlice, run_underlying hS, ht.run_size, Result.andThen, Instr.fill, newRow]
    have e0 : ∀ f : Nat → Value, (Array.range 0).map f = #[] := fun f => by simp
    rw [e0, e0]
  · simp only [Instr.buildSlice, Sem.run_bind, run_underlying hS, ht.run_size, Result.andThen]
    simp only [hm, hn0, if_false, Sem.run_bind, ht.run_zero, Result.andThen, Sem.run_pure, a1, newRow, run_newObj_alloc]
 have hnew := Good.new hg (E.w.alloc (.cells arr e)) e ti.sz n (ps.map (·.2)) arr rfl rfl rfl rfl (by rw [a2]; simp) (by simp [hn]) (by
  have : n ≤ n * ti.sz := Nat.le_mul_of_pos_right _ hsz
  simp only [maxLen]; rw [← hn] at hmax; omega) (fun i hi => by
  have hi1 : i < ps.length := by simpa using hi
  have hi2 : i < vs.toList.length := by omega
  obtain ⟨c1, c2⟩ := h2.get i hi
  refine ⟨c2, fun j hj => ?_⟩
  simp only [List.getElem_map] at c1 c2 hj ⊢
  obtain ⟨g1, g2⟩ := (q3 i hi1 hi2).cells c1
  have hj2 : j < (vs.toList[i].2).cells.size := by rw [g1]; exact hj
  refine ⟨(vs.toList[i].2).cells[j], ?_, (g2 j hj hj2).1, (g2 j hj hj2).2⟩
  have := a4 i (by simpa using hi2) j (by rw [← c2]; exact hj)
  simp only [Nat.zero_add, List.getElem_map] at this
  rw [this]; simp)
 refine ⟨_, _, _, _, hrun, hnew.1, hnew.2, .s E.k 0 n _ _ (by show E.k < E.k + 1; omega) (fun q hq => ?_), ?_⟩
 · simp only [upd_self, Option.some.injEq] at hq
   subst hq
   simp only [List.length_map]
   exact ⟨by omega, fun _ => ⟨by omega, fun _ => by simp⟩⟩
 · rw [← hg.k, hn]
   simpa [newMem] using h3
end Go.Ab
namespace Go.Ab
open Go Go.RowKit
def makeK (e : TypeId) (ti : TI) (M : Mem) : AV → AV → (AV → Mem → Prop) → Prop
 | .c (.int _ n), .c (.int _ c), K => (ti.k.agg = true ∨ 0 < ti.sz) ∧ 0 ≤ c ∧ ti.by' * c.toNat ≤ 281474976710656 ∧ c ≤ 9223372036854775807 ∧
  ((n = c ∧ K (.s M.k 0 n.toNat) (newMem M ⟨e, ti.sz, List.replicate n.toNat (zeroAV ti)⟩)) ∨ (n = 0 ∧ K (.s M.k 0 0) (newMem M ⟨e, ti.sz, []⟩)))
 | _, _, _ => False
theorem Good.owned {w0 : World} {E : Env} {M : Mem} (hg : Good w0 E M) {w' : World} {e : TypeId} {sz g n cap : Nat} {vals : List Value} {xs : List AV}
 (hgr : E.w.grownBy w' none) (ho : w'.ownsRow E.w.heap.size e sz (.slice (some ⟨g, 0, none⟩) n cap) n vals) (hx : xs.length = n)
 (hc : ∀ i (hi : i < xs.length), xs[i].cells.length = sz ∧ ∀ j (hj : j < xs[i].cells.length), ∃ y, vals[i * sz + j]? = some y ∧ One y ∧ Rep E xs[i].cells[j] y)
 (hsp : n = cap ∨ ∀ cur, w'.heap[g]? = some (.cells cur e (0, 0)) → SpareA e cur (n * sz)) :
 Good w0 ⟨w', Ab.upd E.ad E.k (some ⟨g, sz, n, cap⟩), E.k + 1, E.hid⟩ ⟨insert M.l M.k ⟨e, sz, xs⟩, M.k + 1⟩ ∧ Later E ⟨w', Ab.upd E.ad E.k (some ⟨g, sz, n, cap⟩), E.k + 1, E.hid⟩ := by
 have hnone : E.ad E.k = none := by
  cases hq : E.ad E.k with
  | none => rfl
  | some q => exact absurd (hg.lt _ _ hq) (by omega)
 obtain ⟨ho1, ho2⟩ := ho
 rcases ho2 with ⟨h, _⟩ | ⟨g', cap', cur, h, hb, hh, hnc, hcm, hcs, htk⟩
 · simp at h
 · simp only [Value.slice.injEq, Option.some.injEq, Addr.mk.injEq, and_true, true_and] at h
   obtain ⟨rfl, rfl⟩ := h
   rw [hg.k]
   refine Good.upd hg w' E.k (E.k + 1) ⟨g, sz, n, cap⟩ ⟨e, sz, xs⟩ (by omega) (by omega)
    (hg.below.trans ⟨hgr.os, hgr.tape, hgr.output, hgr.size, fun b hb => hgr.block b (Nat.lt_of_lt_of_le hb hg.below.size) (by simp)⟩) hgr.size (fun b hb _ => hgr.block b hb (by simp)) rfl hx.symm hnc
    (fun _ => ⟨Nat.le_trans hg.below.size hb, .inl hb⟩) (fun q hq => by rw [hnone] at hq; cases hq) (fun h => absurd h (by omega)) (fun hl _ => ?_)
   refine ⟨hcm, cur, hh, ⟨hcs, hsp.elim (fun e => SpareA.exact (by rw [hcs, hx, e]; exact Nat.le_refl _)) (fun h => by simp only [hx]; exact h cur hh)⟩, fun i hi => ⟨(hc i hi).1, fun j hj => ?_⟩⟩
   obtain ⟨y, a, b, c⟩ := (hc i hi).2 j hj
   refine ⟨y, ?_, b, c.later hl⟩
   have hlt : i * sz + j < vals.length := (List.getElem?_eq_some_iff.1 a).1
   rw [← htk, List.getElem?_take_of_lt (by omega)] at a
   simpa using a
theorem rep_made {P : Program} {t : TypeId} {ti : TI} (ht : TOk P t ti) (hs : ti.k.agg = true ∨ 0 < ti.sz) (E : Env) (n : Nat) :
 ∀ i (hi : i < (List.replicate n (zeroAV ti)).length), (List.replicate n (zeroAV ti))[i].cells.length = ti.sz ∧
  ∀ j (hj : j < (List.replicate n (zeroAV ti))[i].cells.length), ∃ y, (madeCells ti.zero.cells (n * ti.sz)).toList[i * ti.sz + j]? = some y ∧ One y ∧ Rep E (List.replicate n (zeroAV ti))[i].cells[j] y := by
 intro i hi
 have hi' : i < n := by simpa using hi
 have hz := rep_zero ht hs E
 have hcl : Cells (zeroAV ti) := by
  unfold zeroAV
  cases ha : ti.k.agg with
  | true =>
   simp only [cond_true, Cells]
   generalize ti.z = z
   induction z with
   | nil => trivial
   | cons a r ih => exact ⟨trivial, ih⟩
  | false => trivial
 obtain ⟨g1, g2⟩ := hz.cells hcl
 have hzc := ht.zc
 simp only [List.getElem_replicate]
 refine ⟨by omega, fun j hj => ?_⟩
 have hj2 : j < ti.zero.cells.size := by omega
 refine ⟨ti.zero.cells[j], ?_, (g2 j hj hj2).1, (g2 j hj hj2).2⟩
 have h1 : i * ti.sz + j < n * ti.sz := by
  have : (i + 1) * ti.sz ≤ n * ti.sz := Nat.mul_le_mul_right _ hi'
  rw [Nat.add_mul] at this; omega
 have h3 : (i * ti.sz + j) % ti.zero.cells.size = j := by
  rw [hzc, Nat.mul_comm, Nat.mul_add_mod]; exact Nat.mod_eq_of_lt (by omega)
 simp [madeCells, h1, h3, hj2]
theorem spare_made {P : Program} {e : TypeId} {ti : TI} (hti : TOk P e ti) (h : e = U8T) {n j : Nat} {y : Value} (hy : (madeCells ti.zero.cells n)[j]? = some y) : ∃ v, y = .int .u8 v := by
 have hz := hti.u8 h
 have hc : ti.zero.cells = #[.int .u8 0] := by
  unfold TI.zero
  rw [hz]
  cases ti.k.agg <;> rfl
 rw [hc] at hy
 obtain ⟨h1, h2⟩ := Array.getElem?_eq_some_iff.1 hy
 refine ⟨0, ?_⟩
 rw [← h2]
 simp only [madeCells, Array.getElem_map, Array.getElem_range]
 simp [Nat.mod_one]
theorem make_out {P : Program} {w0 : World} {E : Env} {M : Mem} {t e : TypeId} {ti : TI} {a b : AV} {u v : Value} {K : AV → Mem → Prop} (hg : Good w0 E M)
 (hS : KOk P t (.sl e)) (ht : TOk P e ti) (hr : Rep E a u) (hx : Rep E b v) (h : makeK e ti M a b K) : Out P w0 E (Instr.makeSlice t u v) K := by
 obtain ⟨f, g1, g2, g3, g4⟩ := ht.ex
 cases hr <;> try exact h.elim
 cases hx <;> (cases u <;> try exact h.elim)
 cases v <;> try exact h.elim
 rename_i k n _ k' c _
 obtain ⟨hs, h0, hby, hmx, hK⟩ := h
 have hc : ((c.toNat : Nat) : Int) = c := Int.toNat_of_nonneg h0
 rcases hK with ⟨rfl, hK⟩ | ⟨rfl, hK⟩
 · obtain ⟨w', r1, r2, r3⟩ := run_make_full (P := P) E.w E.w.heap.size t e f ti.zero ti.sz hS g1 g2 g3 k k' n.toNat (by rw [g4]; exact hby) (by simp only [maxLen]; omega) (Nat.le_refl _)
   rw [hc] at r1
   have hgd := Good.owned hg r3 r2 (xs := List.replicate n.toNat (zeroAV ti)) (by simp) (rep_made ht hs E n.toNat) (.inl rfl)
   refine ⟨_, _, _, _, r1, hgd.1, hgd.2, .s E.k 0 n.toNat _ _ (by show E.k < E.k + 1; omega) (fun q hq => ?_), ?_⟩
   · simp only [upd_self, Option.some.injEq] at hq
     subst hq
     exact ⟨by simp, fun _ => ⟨by simp, fun _ => by simp⟩⟩
   · simpa [newMem, hg.k] using hK
 · obtain ⟨w', r1, r2, r3⟩ := run_make_own (P := P) E.w E.w.heap.size t e f ti.zero ti.sz hS g1 g2 g3 k k' c.toNat (by rw [g4]; exact hby) (by simp only [maxLen]; omega) (Nat.le_refl _)
   rw [hc] at r1
   have hgd := Good.owned hg r3 r2 (xs := []) rfl (fun i hi => absurd hi (by simp)) (.inr fun cur hcur hT j y _ hy => by
    have hb1 : ((ti.by' * c.toNat : Nat) : Int) ≤ 281474976710656 := by omega
    have hbb : (f.bytes : Int) * (c.toNat : Int) ≤ 281474976710656 := by rw [g4]; rwa [Int.natCast_mul] at hb1
    have r0 := run_make (P := P) E.w t e f ti.zero hS g1 g2 k k' 0 (c.toNat : Int) (Int.le_refl _) (by omega) hbb (by omega)
    rw [hc] at r0
    rw [r1] at r0
    simp only [Result.ok.injEq] at r0
    rw [r0.2, heap_alloc_new] at hcur
    simp only [Option.some.injEq, Obj.cells.injEq] at hcur
    rw [← hcur.1] at hy
    exact spare_made ht hT hy)
   refine ⟨_, _, _, _, r1, hgd.1, hgd.2, .s E.k 0 0 _ _ (by show E.k < E.k + 1; omega) (fun q hq => ?_), ?_⟩
   · simp only [upd_self, Option.some.injEq] at hq
     subst hq
     exact ⟨by simp, fun _ => ⟨by simp, fun _ => by simp⟩⟩
   · simpa [newMem, hg.k] using hK
end Go.Ab
namespace Go.Ab
open Go Go.RowKit
def bnd (d : Int) : Option AV → (Int → Prop) → Prop
 | none, K => K d
 | some (.c (.int _ i)), K => K i
 | _, _ => False
inductive RepO (E : Env) : Option AV → Option Value → Prop where
 | none : RepO E none none
 | some (a : AV) (v : Value) (h : Rep E a v) : RepO E (some a) (some v)
def bnds (n : Nat) (lo hi mx : Option AV) (K : Nat → Nat → Prop) : Prop :=
 bnd 0 lo fun l => bnd n hi fun h => bnd n mx fun m => (mx.isSome = true → hi.isSome = true) ∧ 0 ≤ l ∧ l ≤ h ∧ h ≤ m ∧ m ≤ n ∧ K l.toNat h.toNat
theorem bound_run {P : Program} (w : World) (k : IntKind) (i : Int) (y : Nat) (c : BoundsCode) (a : 0 ≤ i) (b : i ≤ y) : (Instr.sliceBound (.int k i) y c).run P w = .ok i.toNat w := by
 simp [Instr.sliceBound, asIntOf, a, b]
theorem bnd_val {E : Env} {d : Int} {o : Option AV} {ov : Option Value} {K : Int → Prop} (hr : RepO E o ov) (h : bnd d o K) : ∃ i, K i ∧ ((o = none ∧ ov = none ∧ i = d) ∨ ∃ k a, o = some a ∧ ov = some (.int k i)) := by
 cases hr with
 | none => exact ⟨d, h, .inl ⟨rfl, rfl, rfl⟩⟩
 | some a v hr =>
  cases hr <;> try exact h.elim
  cases v <;> try exact h.elim
  exact ⟨_, h, .inr ⟨_, _, rfl, rfl⟩⟩
theorem bnds_run {P : Program} {E : Env} {n cap : Nat} {lo hi mx : Option AV} {lv hv mv : Option Value} {K : Nat → Nat → Prop} (hn : n ≤ cap) (h1 : RepO E lo lv) (h2 : RepO E hi hv) (h3 : RepO E mx mv)
 (h : bnds n lo hi mx K) : ∃ l h m : Nat, (∀ b, (Instr.sliceBounds b n cap lv hv mv).run P E.w = .ok (l, h, m) E.w) ∧ l ≤ h ∧ h ≤ n ∧ h ≤ m ∧ m ≤ cap ∧ (hi = none → h = n) ∧ (mx = none → m = cap) ∧ (mx.isSome = true → hi.isSome = true) ∧ K l h := by
 unfold bnds at h
 obtain ⟨l, h, e1⟩ := bnd_val h1 h
 obtain ⟨i, h, e2⟩ := bnd_val h2 h
 obtain ⟨m, ⟨hm, a1, a2, a3, a4, hK⟩, e3⟩ := bnd_val h3 h
 have eh : ((i.toNat : Nat) : Int) = i := Int.toNat_of_nonneg (by omega)
 have em : ((m.toNat : Nat) : Int) = m := Int.toNat_of_nonneg (by omega)
 rcases e3 with ⟨rfl, rfl, rfl⟩ | ⟨km, am, rfl, rfl⟩
 · refine ⟨l.toNat, i.toNat, cap, fun b => ?_, by omega, by omega, by omega, by omega, fun e => ?_, fun _ => rfl, hm, hK⟩
   · rcases e2 with ⟨rfl, rfl, h2'⟩ | ⟨k2, a2', rfl, rfl⟩ <;> rcases e1 with ⟨rfl, rfl, h1'⟩ | ⟨k1, a1', rfl, rfl⟩ <;>
      simp only [Instr.sliceBounds, Sem.run_bind, Sem.run_pure, Result.andThen, bound_run (P := P) E.w _ _ _ _ a1 (by omega : l ≤ (i.toNat : Int)), bound_run (P := P) E.w _ _ n _ a1 (by omega), bound_run (P := P) E.w _ _ cap _ (by omega : 0 ≤ i) (by omega : i ≤ (cap : Int))] <;> simp [*]
   · rcases e2 with ⟨_, _, rfl⟩ | ⟨k2, a2', h, _⟩
     · simp
     · rw [h] at e; cases e
 · obtain ⟨k2, a2', rfl, rfl⟩ : ∃ k a, hi = some a ∧ hv = some (.int k i) := by
    rcases e2 with ⟨h, _⟩ | h
    · rw [h] at hm; exact absurd (hm rfl) (by simp)
    · exact h
   refine ⟨l.toNat, i.toNat, m.toNat, fun b => ?_, by omega, by omega, by omega, by omega, fun e => by (cases e), fun e => by (cases e), fun _ => rfl, hK⟩
   rcases e1 with ⟨rfl, rfl, h1'⟩ | ⟨k1, a1', rfl, rfl⟩ <;>
    simp only [Instr.sliceBounds, Sem.run_bind, Sem.run_pure, Result.andThen, bound_run (P := P) E.w _ _ cap _ (by omega : 0 ≤ m) (by omega : m ≤ (cap : Int)), bound_run (P := P) E.w _ _ m.toNat _ (by omega : 0 ≤ i) (by omega : i ≤ (m.toNat : Int)), bound_run (P := P) E.w _ _ i.toNat _ a1 (by omega : l ≤ (i.toNat : Int))] <;> simp [*]
theorem cut_l {E : Env} {sz : Nat} {xs : List AV} {A : Option Addr} {n cap l h m : Nat} (hr : Rep E (.l sz xs) (.slice A n cap)) (h1 : l ≤ h) (h2 : h ≤ n) (h3 : h ≤ m) (h4 : m ≤ cap) :
 Rep E (.l sz ((xs.drop l).take (h - l))) (.slice (if m = l then A else A.map (·.add (l * sz))) (h - l) (m - l)) := by
 cases hr with
 | l _ _ b off _ y hcap hz hs hc hr =>
  have hlen : ((xs.drop l).take (h - l)).length = h - l := by simp; omega
  by_cases he : m = l
  · have : h - l = 0 := by omega
    rw [if_pos he, this]
    exact .l0 _ _ _
  · rw [if_neg he]
    simp only [Option.map_some, addr_add]
    have := Rep.l (E := E) sz ((xs.drop l).take (h - l)) b (off + l * sz) (m - l) (fun i j => y (l + i) j) (by omega) hz (fun i hi => ?_) (fun i j hi hj => ?_) (fun i hi j hj => ?_)
    · rw [hlen] at this; exact this
    · simp only [List.getElem_take, List.getElem_drop]; exact hs _ _
    · rw [hlen] at hi
      have e : off + l * sz + (i * sz + j) = off + ((l + i) * sz + j) := by rw [Nat.add_mul]; omega
      rw [e]; exact hc _ _ (by omega) hj
    · simp only [List.getElem_take, List.getElem_drop]; exact hr _ _ _ _
 | l0 =>
  have e0 : h - l = 0 := by omega
  rw [e0]
  simp only [List.drop_nil, List.take_nil]
  exact .l0 _ _ _
def cutK (k : TK) (tab : Tab) (M : Mem) (lo hi mx : Option AV) : AV → (AV → Mem → Prop) → Prop
 | .s id off n, K => match k with
  | .sl e => (∃ ti, assoc tab e = some ti ∧ blkK M id (off + n) fun blk => blk.sz = ti.sz ∧ bnds n lo hi mx fun l h =>
   if hi.isNone then K (.s id (off + l) (n - l)) M else PureL blk.xs ∧ K (.l ti.sz ((blk.xs.drop (off + l)).take (h - l))) (M.drop id))
  | _ => False
 | .l sz xs, K => match k with
  | .sl e => (∃ ti, assoc tab e = some ti ∧ sz = ti.sz ∧ bnds xs.length lo hi mx fun l h => K (.l sz ((xs.drop l).take (h - l))) M)
  | _ => False
 | .c (.slice none 0 0), K => match k with
  | .sl e => (∃ ti, assoc tab e = some ti ∧ bnds 0 lo hi mx fun _ _ => K (.c (.slice none 0 0)) M)
  | _ => False
 | .c (.string s), K => match k with
  | .str => mx.isNone = true ∧ bnds s.size lo hi mx fun l h => K (.c (.string (s.extract l h))) M
  | _ => False
 | .e cs, K => match k with
  | .ar m e => lo = none ∧ hi = none ∧ mx = none ∧ (∃ ti, assoc tab e = some ti ∧ ti.sz = 1) ∧ cs.length = m ∧ 0 < m ∧ AllCell cs ∧ K (.l 1 cs) M
  | _ => False
 | _, _ => False
theorem cut_out {P : Program} {w0 : World} {E : Env} {M : Mem} {t : TypeId} {k : TK} {tab : Tab} {a : AV} {v : Value} {lo hi mx : Option AV} {lv hv mv : Option Value} {K : AV → Mem → Prop} (hg : Good w0 E M)
 (hT : TabOk P tab) (hk : KOk P t k) (hr : Rep E a v) (h1 : RepO E lo lv) (h2 : RepO E hi hv) (h3 : RepO E mx mv) (h : cutK k tab M lo hi mx a K) : Out P w0 E (Instr.sliceAt t v lv hv mv) K := by
 have hrun : ∀ e ti, k = .sl e → assoc tab e = some ti → ∀ A n cap l h m, (∀ b, (Instr.sliceBounds b n cap lv hv mv).run P E.w = .ok (l, h, m) E.w) →
  (Instr.sliceAt t (.slice A n cap) lv hv mv).run P E.w = .ok (.slice (if m = l then A else A.map (·.add (l * ti.sz))) (h - l) (m - l)) E.w := fun e ti hke hti A n cap l h m hb => by
  subst hke
  simp only [KOk] at hk
  simp only [Instr.sliceAt, Sem.run_bind, run_underlying hk, Result.andThen, Instr.slice, hb, (hT _ _ hti).run_size, Sem.run_pure]
 cases hr <;> try exact h.elim
 case c hv' =>
  cases v <;> try exact h.elim
  case string s =>
   cases k <;> try exact h.elim
   obtain ⟨hm, h⟩ := h
   obtain ⟨l, h', m, b1, b2, b3, b4, b5, b6, b7, b8, hK⟩ := bnds_run (P := P) (cap := s.size) (Nat.le_refl _) h1 h2 h3 h
   have hmn : mv = none := by
    cases h3 with
    | none => rfl
    | some a v _ => simp at hm
   subst hmn
   simp only [KOk] at hk
   exact .val hg (by simp only [Instr.sliceAt, Sem.run_bind, run_underlying hk, Result.andThen, Instr.slice, b1, Sem.run_pure, Option.isSome_none, Bool.false_eq_true, if_false]) (.c (.string _) rfl) hK
  case slice A n c =>
   match A, n, c, h with
   | none, 0, 0, h =>
    cases k <;> try exact h.elim
    obtain ⟨ti, hti, h⟩ := h
    obtain ⟨l, h', m, b1, b2, b3, b4, b5, b6, b7, b8, hK⟩ := bnds_run (P := P) (cap := 0) (Nat.le_refl _) h1 h2 h3 h
    have e1 : l = 0 := by omega
    have e2 : h' = 0 := by omega
    have e3 : m = 0 := by omega
    subst e1; subst e2; subst e3
    exact .val hg (by rw [hrun _ _ rfl hti _ _ _ _ _ _ b1]; rfl) (.c (.slice none 0 0) rfl) hK
 case e cs b off y hz hc hr =>
  cases k <;> try exact h.elim
  rename_i m e
  obtain ⟨rfl, rfl, rfl, ⟨ti, hti, hs1⟩, rfl, h0, hcl, hK⟩ := h
  cases h1; cases h2; cases h3
  simp only [KOk] at hk
  have hbd : (Instr.sliceBounds false cs.length cs.length none none none).run P E.w = .ok (0, cs.length, cs.length) E.w := by
   obtain ⟨l, h', m, b1, b2, b3, b4, b5, b6, b7, b8, hK2⟩ := bnds_run (P := P) (E := E) (n := cs.length) (cap := cs.length) (K := fun l h => l = 0) (Nat.le_refl _) .none .none .none (by simp [bnds, bnd])
   have e1 := b6 rfl
   have e2 := b7 rfl
   subst e1; subst e2; subst hK2
   exact b1 false
  have hun := run_underlying hk
  refine .val hg (v := .slice (some ⟨b, off, none⟩) cs.length cs.length) (by
   simp only [Instr.sliceAt, Sem.run_bind, run_underlying hk, Result.andThen, Instr.sureAddr, Sem.run_pure, hbd, (hT _ _ hti).run_size]
   rw [if_neg (by omega)]
   simp [Addr.add]) (.l 1 cs b off cs.length (fun i j => y (i + j)) (Nat.le_refl _) hz (fun i hi => ?_) (fun i j hi hj => ?_) (fun i hi j hj => ?_)) hK
  · have := hcl.get i hi
    generalize cs[i] = c at this
    cases c <;> first | rfl | exact this.elim
  · have hj0 : j = 0 := by omega
    subst hj0
    have := hc i hi
    simpa using this
  · have hce : cs[i].cells = [cs[i]] := by
     have := hcl.get i hi
     generalize cs[i] = c at this
     cases c <;> first | rfl | exact this.elim
    have hj0 : j = 0 := by rw [hce] at hj; simpa using hj
    subst hj0
    have := hr i hi
    simp only [hce, List.getElem_cons_zero, Nat.add_zero]
    exact this
 case l sz xs b off cap y hcap hz hs hc hr =>
  cases k <;> try exact h.elim
  obtain ⟨ti, hti, rfl, h⟩ := h
  obtain ⟨l, h', m, b1, b2, b3, b4, b5, b6, b7, b8, hK⟩ := bnds_run (P := P) (cap := cap) hcap h1 h2 h3 h
  exact .val hg (hrun _ _ rfl hti _ _ _ _ _ _ b1) (cut_l (.l _ xs b off cap y hcap hz hs hc hr) b2 b3 b4 b5) hK
 case l0 sz A cap =>
  cases k <;> try exact h.elim
  obtain ⟨ti, hti, rfl, h⟩ := h
  obtain ⟨l, h', m, b1, b2, b3, b4, b5, b6, b7, b8, hK⟩ := bnds_run (P := P) (cap := cap) (Nat.zero_le _) h1 h2 h3 h
  exact .val hg (hrun _ _ rfl hti _ _ _ _ _ _ b1) (cut_l (.l0 _ A cap) b2 b3 b4 b5) hK
 case s id off n A cap hk' hs =>
  cases k <;> try exact h.elim
  obtain ⟨ti, hti, blk, hM, hn, hsz, h⟩ := h
  obtain ⟨q, q1, q2, q3, q4, q5⟩ := hg.held id blk hM
  obtain ⟨g1, g2⟩ := hs q q1
  obtain ⟨g3, g4⟩ := g2 (by omega)
  obtain ⟨l, h', m, b1, b2, b3, b4, b5, b6, b7, b8, hK⟩ := bnds_run (P := P) (cap := cap) (by omega) h1 h2 h3 h
  have hr' := hrun _ _ rfl hti A n cap l h' m b1
  have hrs : Rep E (.s id (off + l) (n - l)) (.slice (if cap = l then A else A.map (·.add (l * ti.sz))) (n - l) (cap - l)) := by
   refine .s _ _ _ _ _ hk' (fun q' hq' => ?_)
   rw [q1] at hq'; cases hq'
   refine ⟨by omega, fun _ => ⟨by omega, fun hc => ?_⟩⟩
   rw [if_neg (by omega), g4 (by omega)]
   simp only [Option.map_some, addr_add, Option.some.injEq, Addr.mk.injEq, and_true, true_and]
   rw [q2, hsz, Nat.add_mul]
  cases h2 with
  | none =>
   simp only [Option.isNone_none, if_true] at hK
   have e1 := b6 rfl
   have hmx : mx = none := by
    cases mx with
    | none => rfl
    | some a => exact absurd (b8 rfl) (by simp)
   have e2 := b7 hmx
   subst e1; subst e2
   exact .val hg hr' hrs hK
  | some a0 v0 h0 =>
   simp only [Option.isNone_some, Bool.false_eq_true, if_false] at hK
   obtain ⟨hp, hK⟩ := hK
   obtain ⟨hg', hl⟩ := hg.without [id]
   have hv := rep_viewC (ids := [id]) hg (Rep.s id off n A cap hk' hs) ⟨blk, hM, by omega, hp⟩ (fun i hi => by simpa [idsC] using hi)
   simp only [viewC, hM] at hv
   have hc := cut_l (l := l) (h := h') (m := m) hv b2 b3 b4 b5
   rw [List.drop_drop, hsz] at hc
   exact ⟨_, E.without [id], M.drop id, _, hr', hg', hl, hc, hK⟩
end Go.Ab
namespace Go.Ab
open Go Go.RowKit
def byteOf : AV → UInt8
 | .c (.int _ n) => UInt8.ofNat n.toNat
 | _ => 0
def IsB : AV → Prop
 | .c (.int .u8 _) => True
 | _ => False
def strOf (xs : List AV) : ByteArray := ⟨(xs.map byteOf).toArray⟩
theorem isB_encB (b : UInt8) : IsB (encB b) := trivial
def IsU8 (tab : Tab) (e : TypeId) : Prop := ∃ ti, assoc tab e = some ti ∧ (match ti.k with | .int .u8 => True | _ => False)
def bytesStrK (tab : Tab) (M : Mem) (a : AV) (K : AV → Mem → Prop) : TK → TK → Prop
 | .sl e, .str => IsU8 tab e ∧ srcK 1 M a fun xs => (∀ z ∈ xs, IsB z) ∧ K (.c (.string (strOf xs))) M
 | _, _ => False
def strConvK (tab : Tab) (M : Mem) (s : ByteArray) (K : AV → Mem → Prop) : TK → TK → Prop
 | .str, .str => K (.c (.string s)) M
 | .str, .sl e => IsU8 tab e ∧ K (.l 1 (s.data.toList.map encB)) M
 | _, _ => False
def intConvK (M : Mem) (n : Int) (K : AV → Mem → Prop) : TK → Prop
 | .int k' => K (.c (.int k' (k'.wrap n))) M
 | _ => False
def convK (ks kd : TK) (tab : Tab) (M : Mem) : AV → (AV → Mem → Prop) → Prop
 | .c (.int _ n), K => intConvK M n K kd
 | .c (.string s), K => strConvK tab M s K ks kd
 | a, K => bytesStrK tab M a K ks kd
theorem und_some {P : Program} {t : TypeId} {k : TK} (h : KOk P t k) (ho : k.known = true) : ∃ d, P.underlying t = some d := by
 cases k <;> simp only [KOk] at h
 case st => obtain ⟨a, h, _⟩ := h; exact ⟨_, h⟩
 case fn => obtain ⟨a, b, c, h⟩ := h; exact ⟨_, h⟩
 case other => cases ho
 all_goals exact ⟨_, h⟩
theorem isB_int {a : AV} (h : IsB a) : ∃ n, a = .c (.int .u8 n) := by
 cases a <;> try exact h.elim
 rename_i v
 cases v <;> try exact h.elim
 rename_i k n
 cases k <;> first | exact h.elim | exact ⟨n, rfl⟩
theorem bytes_conv {P : Program} {E : Env} {src dst e : TypeId} {v : Value} {xs : List AV} (hS : P.underlying src = some (.slice e)) (he : P.underlying e = some (.int .u8)) (hD : P.underlying dst = some .string)
 (hs : Src P E 1 v xs) (hb : ∀ z ∈ xs, IsB z) (hv : ∃ A n c, v = .slice A n c) : (convert src dst v).run P E.w = .ok (.string (strOf xs)) E.w := by
 obtain ⟨A, n, c, rfl⟩ := hv
 have hn : n = xs.length := by
  have := hs.len E.w
  simp [Builtin.lenOf] at this
  exact this
 subst hn
 rw [run_convert_bytes_string E.w src dst e A xs.length c hS he hD]
 obtain ⟨news, n1, n2, n3⟩ := hs.first
 have hnews : news = (xs.map fun z => match z with | .c (.int _ n) => n | _ => 0).map (Value.int .u8) := by
  apply List.ext_getElem?
  intro i
  by_cases hi : i < xs.length
  · obtain ⟨k, hk⟩ := isB_int (hb _ (List.getElem_mem hi))
    obtain ⟨c1, c2⟩ := n3 i hi
    obtain ⟨y, b1, _, b3⟩ := c2 0 (by rw [c1]; omega)
    simp only [hk, AV.cells, List.getElem_cons_zero] at b3
    cases b3
    rw [Nat.mul_one, Nat.add_zero] at b1
    rw [b1]
    simp [hi, hk]
  · rw [List.getElem?_eq_none (by omega), List.getElem?_eq_none (by simp; omega)]
 cases A with
 | none =>
  have h0 := n2 E.w rfl
  simp [Builtin.firstCells] at h0
  have : xs = [] := List.eq_nil_of_length_eq_zero (by rw [h0] at n1; simpa using n1.symm)
  subst this
  simp [Conv.bytesToString, strOf, ByteArray.empty, ByteArray.emptyWithCapacity]
  rfl
 | some a =>
  have h0 := n2 E.w rfl
  simp only [Builtin.firstCells, Nat.mul_one] at h0
  rw [hnews] at h0
  rw [run_bytesToString E.w a xs.length c _ h0]
  have hfold : ∀ (l : List Int) (r : ByteArray), l.foldl (fun r n => r.push (UInt8.ofNat n.toNat)) r = ⟨r.data ++ (l.map fun n => UInt8.ofNat n.toNat).toArray⟩ := by
   intro l
   induction l with
   | nil => intro r; simp
   | cons n l ih =>
    intro r
    rw [List.foldl_cons, ih]
    show (⟨r.data.push _ ++ _⟩ : ByteArray) = _
    simp
  have hkey : (xs.map fun z => match z with | .c (.int _ n) => n | _ => 0).foldl (fun r n => r.push (UInt8.ofNat n.toNat)) ByteArray.empty = strOf xs := by
   rw [hfold]
   unfold strOf
   have : byteOf = (fun n : Int => UInt8.ofNat n.toNat) ∘ (fun z : AV => match z with | .c (.int _ n) => n | _ => 0) := by
    funext z
    simp only [Function.comp]
    cases z <;> try rfl
    rename_i v; cases v <;> rfl
   rw [this, ← List.map_map]
   simp only [ByteArray.empty, ByteArray.emptyWithCapacity]
   congr 1
   exact Array.empty_append
  rw [hkey]
theorem conv_out {P : Program} {w0 : World} {E : Env} {M : Mem} {src dst : TypeId} {ks kd : TK} {tab : Tab} {a : AV} {v : Value} {K : AV → Mem → Prop} (hg : Good w0 E M) (hT : TabOk P tab)
 (hs : KOk P src ks) (hso : ks.known = true) (hd : KOk P dst kd) (hr : Rep E a v) (h : convK ks kd tab M a K) : Out P w0 E (convert src dst v) K := by
 have hu8 : ∀ e, IsU8 tab e → P.underlying e = some (.int .u8) := fun e ⟨ti, h1, h2⟩ => by
  have := (hT _ _ h1).k
  cases hk : ti.k <;> rw [hk] at h2 <;> try exact h2.elim
  rename_i k
  rw [hk] at this
  cases k <;> first | exact h2.elim | exact this
 have hbytes : ∀ a, Rep E a v → bytesStrK tab M a K ks kd → (∃ A n c, v = .slice A n c) → Out P w0 E (convert src dst v) K := fun a hr h hv => by
  cases ks <;> try exact h.elim
  cases kd <;> try exact h.elim
  obtain ⟨h1, h2⟩ := h
  obtain ⟨xs, x1, x2, x3⟩ := src_of (P := P) hg hr h2
  exact .val hg (bytes_conv hs (hu8 _ h1) hd x1 x2 hv) (.c (.string _) rfl) x3
 have hnot : ∀ a, bytesStrK tab M a K ks kd → (∀ K', srcK 1 M a K' → False) → False := fun a h hn => by
  cases ks <;> try exact h.elim
  cases kd <;> try exact h.elim
  exact hn _ h.2
 cases hr with
 | c v hv =>
  cases v with
  | int k n =>
   cases kd <;> try exact h.elim
   obtain ⟨d, hd'⟩ := und_some hs hso
   simp only [KOk] at hd
   exact .val hg (by simp [convert, run_underlying hd', run_underlying hd, Conv.intToInt, Result.andThen]) (.c (.int _ _) rfl) h
  | string s =>
   cases ks <;> try exact h.elim
   cases kd <;> try exact h.elim
   · simp only [KOk] at hs hd
     exact .val hg (by simp [convert, run_underlying hs, run_underlying hd, Result.andThen]) (.c (.string s) rfl) h
   · rename_i e
     obtain ⟨h1, hK⟩ := h
     have he := hu8 _ h1
     simp only [KOk] at hs hd
     have hrun := Lib.run_convert_string_bytes (P := P) E.w src dst e s hs hd he
     have hsz := Lib.bytesWorld_size E.w e s
     have hl : Later E ⟨Lib.bytesWorld E.w e s, E.ad, E.k, E.hid⟩ := ⟨fun b hb => ⟨⟨by simp only; rw [hsz]; have := hb.1; omega, hb.2⟩, Lib.bytesWorld_at_old _ _ _ _ hb.1⟩, Nat.le_refl _, fun i _ q hq => ⟨q, hq, Nat.le_refl _, fun _ => rfl, fun _ _ => ⟨rfl, rfl⟩⟩, rfl, fun b hb => Lib.bytesWorld_at_old _ _ _ _ (hg.old b hb)⟩
     have hg' : Good w0 ⟨Lib.bytesWorld E.w e s, E.ad, E.k, E.hid⟩ M := by
      refine ⟨hg.below.trans ⟨?_, ?_, ?_, by simp only; rw [hsz]; omega, fun k hk => Lib.bytesWorld_at_old _ _ _ _ (Nat.lt_of_lt_of_le hk hg.below.size)⟩, hg.k, hg.lt, hg.gone, fun i blk hi => ?_, hg.hid, fun b hb => by have := hg.old b hb; simp only; rw [hsz]; omega, hg.inj⟩
      · unfold Lib.bytesWorld World.freeze; split <;> rfl
      · unfold Lib.bytesWorld World.freeze; split <;> rfl
      · unfold Lib.bytesWorld World.freeze; split <;> rfl
      · obtain ⟨q, a1, a2, a3, a4, a5⟩ := hg.held i blk hi
        exact ⟨q, a1, a2, a3, a4, fun hcp => ⟨(a5 hcp).1, ((a5 hcp).2).later hl (Lib.bytesWorld_at_old _ _ _ _ (backed_lt (a5 hcp).2))⟩⟩
     have hlen : (s.data.toList.map encB).length = s.size := by simp
     refine ⟨_, ⟨Lib.bytesWorld E.w e s, E.ad, E.k, E.hid⟩, M, .l 1 (s.data.toList.map encB), hrun, hg', hl, ?_, hK⟩
     rw [← hlen]
     refine .l 1 _ _ 0 _ (fun i _ => .int .u8 (s.data.toList.getD i 0).toNat) ?_ ⟨by simp only; rw [hsz]; omega, fun hh => ?_, fun i q hq hcp => ?_⟩ (fun i hi => ?_) (fun i j hi hj => ?_) (fun i hi j hj => ?_)
     · rw [hlen]; exact grownCap_ge _ _ _ _
     · have h1 := hg.old _ hh
       have h2 := hg.below.size
       omega
     · cases hM : M.get i with
       | none => simp only at hq; rw [hg.gone i hM] at hq; cases hq
       | some blk =>
        obtain ⟨q1, b1, _, _, _, b5⟩ := hg.held i blk hM
        simp only at hq
        rw [hq] at b1; cases b1
        have := backed_lt (b5 hcp).2
        omega
     · simp [encB, AV.cells]
     · have hj0 : j = 0 := by omega
       subst hj0
       have := Lib.bytesWorld_cell E.w e s i (by rw [← hlen]; exact hi)
       simp only [Nat.mul_one, Nat.add_zero, Nat.zero_add]
       exact ⟨this, rfl⟩
     · simp only [List.getElem_map, encB, AV.cells] at hj ⊢
       have hj0 : j = 0 := by simpa using hj
       subst hj0
       have hi' : i < s.data.toList.length := by simpa using hi
       simp only [List.getElem_cons_zero]
       have : s.data.toList.getD i 0 = s.data.toList[i] := by rw [List.getD_eq_getElem?_getD, List.getElem?_eq_getElem hi']; rfl
       rw [this]
       exact .c (.int _ _) rfl
  | slice A n c => exact hbytes _ (.c _ hv) h ⟨_, _, _, rfl⟩
  | _ => exact (hnot _ h (fun _ hh => hh)).elim
 | l sz xs b off cap y hcap hz hs' hc hr => exact hbytes _ (.l sz xs b off cap y hcap hz hs' hc hr) h ⟨_, _, _, rfl⟩
 | l0 sz A cap => exact hbytes _ (.l0 sz A cap) h ⟨_, _, _, rfl⟩
 | s id off n A cap hk hh => exact hbytes _ (.s id off n A cap hk hh) h ⟨_, _, _, rfl⟩
 | _ => exact (hnot _ h (fun _ hh => hh)).elim
def AggEq (P : Program) (t : TypeId) (cs ds : List AV) (b : Bool) : Prop :=
 ∀ E ys zs, Rep E (.g cs) (.agg ys) → Rep E (.g ds) (.agg zs) → ∀ x y,
  (do eqGuard .eql t x y (.agg ys) (.agg zs); binOp .eql t (.agg ys) (.agg zs)).run P E.w = .ok (.bool b) E.w ∧
  (do eqGuard .neq t x y (.agg ys) (.agg zs); binOp .neq t (.agg ys) (.agg zs)).run P E.w = .ok (.bool (!b)) E.w
def strBinK (M : Mem) (a b : ByteArray) (K : AV → Mem → Prop) : BinOp → Prop
 | .eql => K (.c (.bool (a.toList == b.toList))) M
 | .neq => K (.c (.bool (!(a.toList == b.toList)))) M
 | .lss => K (.c (.bool (Op.bytesLess a.toList b.toList))) M
 | .add => a.size + b.size ≤ 9223372036854775807 ∧ K (.c (.string (a ++ b))) M
 | _ => False
def boolBinK (M : Mem) (a b : Bool) (K : AV → Mem → Prop) : BinOp → TK → Prop
 | .eql, .bool => K (.c (.bool (a == b))) M
 | .neq, .bool => K (.c (.bool (!(a == b)))) M
 | _, _ => False
def nilBinK (M : Mem) (N : Bool → Prop) (K : AV → Mem → Prop) : BinOp → TK → Prop
 | .eql, .sl _ => ∀ b : Bool, N b → K (.c (.bool b)) M
 | .neq, .sl _ => ∀ b : Bool, N b → K (.c (.bool (!b))) M
 | _, _ => False
def aggBinK (P : Program) (t : TypeId) (M : Mem) (cs ds : List AV) (K : AV → Mem → Prop) : BinOp → Prop
 | .eql => ∃ b, AggEq P t cs ds b ∧ K (.c (.bool b)) M
 | .neq => ∃ b, AggEq P t cs ds b ∧ K (.c (.bool (!b))) M
 | _ => False
def binK (P : Program) (op : BinOp) (t : TypeId) (k : TK) (M : Mem) : AV → AV → (AV → Mem → Prop) → Prop
 | .c (.int k a), .c (.int k' b), K => ipre op k k' b ∧ K (.c (ibin op k a b)) M
 | .c (.string a), .c (.string b), K => strBinK M a b K op
 | .c (.bool a), .c (.bool b), K => boolBinK M a b K op k
 | .l _ xs, .c (.slice none _ _), K => nilBinK M (fun b => b = true → xs = []) K op k
 | .s id off n, .c (.slice none _ _), K => (0 < n ∧ blkK M id (off + n) fun _ => True) ∧ nilBinK M (fun b => b = false) K op k
 | .c (.slice none _ _), .c (.slice none _ _), K => nilBinK M (fun b => b = true) K op k
 | .g cs, .g ds, K => aggBinK P t M cs ds K op
 | _, _, _ => False
theorem nil_out {P : Program} {w0 : World} {E : Env} {M : Mem} {op : BinOp} {t : TypeId} {k : TK} {x y : Operand} {N : Bool → Prop} {K : AV → Mem → Prop} (hg : Good w0 E M) (hk : KOk P t k)
 (A : Option Addr) (n c n' c' : Nat) (hN : N A.isNone) (h : nilBinK M N K op k) : Out P w0 E (do eqGuard op t x y (.slice A n c) (.slice none n' c'); binOp op t (.slice A n c) (.slice none n' c')) K := by
 cases op <;> try exact h.elim
 · cases k <;> try exact h.elim
   simp only [KOk] at hk
   have := Lib.run_eql_slice_nil (P := P) E.w t _ A n c n' c' hk
   exact .val hg (by simp only [Sem.run_bind, eqGuard_at_slice, Sem.run_pure, Result.andThen]; exact this) (.c (.bool _) rfl) (h _ hN)
 · cases k <;> try exact h.elim
   simp only [KOk] at hk
   have := run_neq_slice_nil_any (P := P) E.w t _ A n c n' c' hk
   exact .val hg (by simp only [Sem.run_bind, eqGuard_at_slice, Sem.run_pure, Result.andThen]; exact this) (.c (.bool _) rfl) (h _ hN)
theorem bin_out {P : Program} {w0 : World} {E : Env} {M : Mem} {op : BinOp} {t : TypeId} {k : TK} {x y : Operand} {a b : AV} {u v : Value} {K : AV → Mem → Prop} (hg : Good w0 E M) (hk : KOk P t k)
 (hr : Rep E a u) (hx : Rep E b v) (h : binK P op t k M a b K) : Out P w0 E (do eqGuard op t x y u v; binOp op t u v) K := by
 cases hr <;> try exact h.elim
 case c hu =>
  cases u
  case slice A n c =>
   cases A <;> (cases hx <;> try exact h.elim)
   rename_i hv
   cases v <;> try exact h.elim
   rename_i A' n' c'
   cases A' <;> try exact h.elim
   exact nil_out (N := fun b => b = true) hg hk none n c n' c' rfl h
  all_goals
   cases hx <;> try exact h.elim
  all_goals
   rename_i hv
   cases v <;> try exact h.elim
  case bool.c.bool =>
   rename_i a b
   cases op <;> try exact h.elim
   all_goals
    cases k <;> try exact h.elim
    simp only [KOk] at hk
   · exact .val hg (by simp only [Sem.run_bind, eqGuard_at_bool, Sem.run_pure, Result.andThen]; exact run_eql_bool E.w t a b hk) (.c (.bool _) rfl) h
   · exact .val hg (by simp only [Sem.run_bind, eqGuard_at_bool, Sem.run_pure, Result.andThen]; exact run_neq_bool E.w t a b hk) (.c (.bool _) rfl) h
  case int.c.int => exact .val hg (run_ibin _ _ _ _ _ _ _ _ _ h.1) (.c _ (one_ibin _ _ _ _)) h.2
  case string.c.string =>
   rename_i a b
   cases op <;> try exact h.elim
   case add =>
    obtain ⟨h1, hK⟩ := h
    refine .val hg ?_ (.c (.string _) rfl) hK
    simp only [Sem.run_bind, eqGuard_at_string, Sem.run_pure, Result.andThen, binOp_string_add, Op.stringOp]
    rw [if_neg (by simp; omega)]
    rfl
   all_goals exact .val hg (by simp [eqGuard_at_string, go_sem]) (.c (.bool _) rfl) h
 case g cs ys hl hr =>
  cases hx <;> try exact h.elim
  rename_i ds zs hl' hr'
  cases op <;> try exact h.elim
  all_goals
   obtain ⟨b, hb, hK⟩ := h
   obtain ⟨h1, h2⟩ := hb E ys zs (.g cs ys hl hr) (.g ds zs hl' hr') x y
  · exact .val hg h1 (.c (.bool _) rfl) hK
  · exact .val hg h2 (.c (.bool _) rfl) hK
 case l sz xs b off cap y hcap hz hs hc hr =>
  cases hx <;> try exact h.elim
  cases v <;> try exact h.elim
  rename_i A n c _
  cases A <;> try exact h.elim
  exact nil_out hg hk _ _ _ _ _ (by simp) h
 case l0 sz A cap =>
  cases hx <;> try exact h.elim
  cases v <;> try exact h.elim
  rename_i A' n c _
  cases A' <;> try exact h.elim
  exact nil_out hg hk _ _ _ _ _ (fun _ => rfl) h
 case s id off n A cap hk' hs =>
  cases hx <;> try exact h.elim
  cases v <;> try exact h.elim
  rename_i A' n' c' _
  cases A' <;> try exact h.elim
  obtain ⟨⟨hn, blk, hM, hlen, _⟩, h⟩ := h
  obtain ⟨q, q1, q2, q3, q4, q5⟩ := hg.held id blk hM
  obtain ⟨g1, g2⟩ := hs q q1
  obtain ⟨g3, g4⟩ := g2 (by omega)
  have hA := g4 (by omega)
  subst hA
  exact nil_out (N := fun b => b = false) hg hk _ _ _ _ _ rfl h
def unK (op : UnOp) : AV → (AV → Prop) → Prop
 | .c (.bool b), K => match op with
  | .not => K (.c (.bool (!b)))
  | _ => False
 | .c (.int k n), K => match op with
  | .neg => K (.c (ibin .sub k 0 n))
  | .xor => K (.c (ibin .xor k (if k.signed then -1 else k.max) n))
  | _ => False
 | _, _ => False
theorem un_out {P : Program} {w0 : World} {E : Env} {M : Mem} {op : UnOp} {a : AV} {v : Value} {K : AV → Mem → Prop} (hg : Good w0 E M) (hr : Rep E a v) (h : unK op a fun a => K a M) :
 Out P w0 E (Op.unary op v) K := by
 cases hr <;> try exact h.elim
 cases v <;> try exact h.elim
 · cases op <;> try exact h.elim
   exact .val hg rfl (.c (.bool _) rfl) h
 · cases op <;> try exact h.elim
   · exact .val hg rfl (.c (ibin .sub _ 0 _) rfl) h
   · exact .val hg rfl (.c (ibin .xor _ _ _) rfl) h
def maxK : AV → AV → (AV → Prop) → Prop
 | .c (.int k a), .c (.int _ b), K => K (.c (.int k (if b > a then b else a)))
 | _, _, _ => False
def minK : AV → AV → (AV → Prop) → Prop
 | .c (.int k a), .c (.int _ b), K => K (.c (.int k (if b < a then b else a)))
 | _, _, _ => False
theorem max_out {P : Program} {w0 : World} {E : Env} {M : Mem} {ts : Array TypeId} {t : TypeId} {a b : AV} {u v : Value} {K : AV → Mem → Prop} (hg : Good w0 E M) (hr : Rep E a u) (hx : Rep E b v) (h : maxK a b fun a => K a M) :
 Out P w0 E (Builtin.max_ ts t #[u, v]) K := by
 cases hr <;> try exact h.elim
 cases u <;> (cases hx <;> try exact h.elim)
 cases v <;> try exact h.elim
 exact .val hg (run_max_int2 E.w ts t _ _ _ _) (.c (.int _ _) rfl) h
theorem min_out {P : Program} {w0 : World} {E : Env} {M : Mem} {ts : Array TypeId} {t : TypeId} {a b : AV} {u v : Value} {K : AV → Mem → Prop} (hg : Good w0 E M) (hr : Rep E a u) (hx : Rep E b v) (h : minK a b fun a => K a M) :
 Out P w0 E (Builtin.min_ ts t #[u, v]) K := by
 cases hr <;> try exact h.elim
 cases u <;> (cases hx <;> try exact h.elim)
 cases v <;> try exact h.elim
 exact .val hg (run_min_int2 E.w ts t _ _ _ _) (.c (.int _ _) rfl) h
def litC (same : Bool) : TK → AV → Bool
 | .sl _, .s _ _ _ => same
 | _, _ => false
def constK (tab : Tab) (M : Mem) (K : AV → Mem → Prop) : TK → AV → Prop
 | .sl e, .s id off n => IsU8 tab e ∧ off = 0 ∧ 0 < n ∧ blkK M id n fun blk => PureL blk.xs ∧ K (.l blk.sz blk.xs) (M.drop id)
 | _, _ => False
def cvK (same : Bool) (ks kd : TK) (tab : Tab) (M : Mem) (a : AV) (K : AV → Mem → Prop) : Prop := bif litC same ks a then constK tab M K ks a else convK ks kd tab M a K
theorem Rep.cells_same {E E' : Env} (had : E'.ad = E.ad) (hk : E'.k = E.k) (hz : ∀ b, E.Z b → E'.Z b) (hc : ∀ b o, E.Z b → E'.w.cell? ⟨b, o, none⟩ = E.w.cell? ⟨b, o, none⟩) {a : AV} {v : Value} (h : Rep E a v) : Rep E' a v := by
 induction h with
 | c v h => exact .c v h
 | x v => exact .x v
 | g cs ys h hr ih => exact .g cs ys h ih
 | t cs ys h hr ih => exact .t cs ys h ih
 | l sz xs b off cap y hcap hz0 hs hcc hr ih => exact .l sz xs b off cap y hcap (hz b hz0) hs (fun i j hi hj => by rw [hc b _ hz0]; exact hcc i j hi hj) ih
 | l0 sz A cap => exact .l0 sz A cap
 | p id i j n a hk0 h => exact .p id i j n a (by rw [hk]; exact hk0) fun q hq => h q (by rw [← had]; exact hq)
 | s id off n A cap hk0 h => exact .s id off n A cap (by rw [hk]; exact hk0) fun q hq => h q (by rw [← had]; exact hq)
 | e cs b off y hz0 hcc hr ih => exact .e cs b off y (hz b hz0) (fun j hj => by rw [hc b _ hz0]; exact hcc j hj) ih
 | f fn caps ys h hr ih => exact .f fn caps ys h ih
 | b fn caps ys h hr ih => exact .b fn caps ys h ih
 | u sz xs A h ih => exact .u sz xs A ih
 | w id len n A cap hk0 h => exact .w id len n A cap (by rw [hk]; exact hk0) fun q hq => h q (by rw [← had]; exact hq)
theorem const_out {P : Program} {w0 : World} {E : Env} {M : Mem} {t e : TypeId} {id n : Nat} {v : Value} {K : AV → Mem → Prop} {blk : Blk} (hg : Good w0 E M) (ht : P.underlying t = some (.slice e)) (he : P.underlying e = some (.int .u8))
 (hr : Rep E (.s id 0 n) v) (hM : M.get id = some blk) (hn : n = blk.xs.length) (h0 : 0 < n) (hp : PureL blk.xs) (hK : K (.l blk.sz blk.xs) (M.drop id)) : Out P w0 E (convert t t v) K := by
 obtain ⟨q, h1, h2, h3, h4, h5⟩ := hg.held id blk hM
 have hcp : 0 < q.cp := by omega
 obtain ⟨h6, h7, arr, h8, h9, h10⟩ := h5 hcp
 have hl := (hg.without [id]).2
 have hrl := rep_viewC hg (ids := [id]) hr ⟨blk, hM, by simpa using hn, hp⟩ (fun i hi => by simpa [idsC] using hi)
 simp only [viewC, hM, List.drop_zero] at hrl
 have hE : E.without [id] = ⟨E.w, Ab.upd E.ad id none, E.k, E.hid⟩ := by
  rw [without_cons, without_nil]
 rw [hE] at hrl
 have hzb : (⟨E.w, Ab.upd E.ad id none, E.k, E.hid⟩ : Env).Z q.b := by
  have hlt := backed_lt (E := E) (q := q) (blk := blk) ⟨h7, arr, h8, h9, h10⟩
  refine ⟨hlt, hg.hid id q h1 hcp, fun i q' hq' hcp' => ?_⟩
  by_cases e : i = id
  · subst e; simp [upd_self] at hq'
  · simp only [upd_ne _ _ e] at hq'
    exact hg.inj i id q' q e hq' h1 hcp' hcp
 have hlt := hzb.1
 cases hr with
 | s _ _ _ A cap hk h =>
  obtain ⟨_, g2⟩ := h q h1
  obtain ⟨g3, g4⟩ := g2 (by omega)
  have hA := g4 (by omega)
  subst hA
  simp only [Nat.zero_mul] at *
  have hsh : E.w.shape? q.b = some (blk.T, arr.size) := by unfold World.shape?; rw [h8]
  let w' := E.w.freeze ⟨q.b, arr.size, none⟩ 1
  have hrun : (convert t t (.slice (some ⟨q.b, 0, none⟩) n cap)).run P E.w = .ok (.slice (some ⟨q.b, 0, none⟩) n cap) w' := by
   simp [convert, run_underlying ht, run_underlying he, markStringish, hsh, w']
  have hw' : w' = { E.w with heap := E.w.heap.modify q.b fun
   | .cells c elem (lo, hi) => .cells c elem (if lo == hi then (arr.size, arr.size + 1) else (min lo arr.size, max hi (arr.size + 1)))
   | o => o } := by
   simp only [w', World.freeze]
   rw [if_neg (by decide)]
   rfl
  have hsz : w'.heap.size = E.w.heap.size := by rw [hw']; simp
  have hsame : ∀ b, b ≠ q.b → w'.heap[b]? = E.w.heap[b]? := fun b hb => by
   rw [hw']
   show (E.w.heap.modify q.b _)[b]? = _
   rw [Array.getElem?_modify, if_neg (Ne.symm hb)]
  have hcell : ∀ b o, w'.cell? ⟨b, o, none⟩ = E.w.cell? ⟨b, o, none⟩ := fun b o => by
   by_cases hb : b = q.b
   · subst hb
     have : w'.heap[q.b]? = some (.cells arr blk.T (arr.size, arr.size + 1)) := by
      rw [hw']
      show (E.w.heap.modify q.b _)[q.b]? = _
      rw [Array.getElem?_modify, if_pos rfl, h8]
      rfl
     simp only [World.cell?, this, h8]
   · simp only [World.cell?, hsame b hb]
  have hbel : Below w0.heap.size E.w w' := ⟨by rw [hw'], by rw [hw'], by rw [hw'], by rw [hsz]; exact Nat.le_refl _, fun b hb => hsame b (by omega)⟩
  have hlat : Later E ⟨w', Ab.upd E.ad id none, E.k, E.hid⟩ := by
   refine ⟨fun b hb => ⟨⟨by rw [hsz]; exact hb.1, hb.2.1, fun i q' hq' hcp' => ?_⟩, hsame b (fun e => hb.2.2 id q h1 hcp e.symm)⟩, Nat.le_refl _, fun i _ q' hq' => ?_, rfl, fun b hb => hsame b fun e => hg.hid id q h1 hcp (e ▸ hb)⟩
   · by_cases e : i = id
     · subst e; simp [upd_self] at hq'
     · simp only [upd_ne _ _ e] at hq'
       exact hb.2.2 i q' hq' hcp'
   · by_cases e : i = id
     · subst e; simp [upd_self] at hq'
     · simp only [upd_ne _ _ e] at hq'
       exact ⟨q', hq', Nat.le_refl _, fun _ => rfl, fun _ _ => ⟨rfl, rfl⟩⟩
  obtain ⟨gd, _⟩ := hg.drop id
  refine ⟨_, ⟨w', Ab.upd E.ad id none, E.k, E.hid⟩, M.drop id, _, hrun, ⟨hg.below.trans hbel, gd.k, gd.lt, gd.gone, fun i b hi => ?_, gd.hid, fun b hb => by have := gd.old b hb; simp only; rw [hsz]; exact this, gd.inj⟩, hlat, ?_, hK⟩
  · obtain ⟨q', a1, a2, a3, a4, a5⟩ := gd.held i b hi
    refine ⟨q', a1, a2, a3, a4, fun hc => ⟨(a5 hc).1, ?_⟩⟩
    have hne : q'.b ≠ q.b := hzb.2.2 i q' a1 hc
    obtain ⟨c0, arr', c1, c2, c3⟩ := (a5 hc).2
    refine ⟨c0, arr', by rw [hsame _ hne]; exact c1, c2, fun k hk' => ⟨(c3 k hk').1, fun j hj => ?_⟩⟩
    obtain ⟨y, d1, d2, d3⟩ := (c3 k hk').2 j hj
    exact ⟨y, d1, d2, Rep.cells_same (E := ⟨E.w, Ab.upd E.ad id none, E.k, E.hid⟩) (E' := ⟨w', Ab.upd E.ad id none, E.k, E.hid⟩) rfl rfl (fun b hb => ⟨Nat.lt_of_lt_of_eq hb.1 hsz.symm, hb.2⟩) (fun b o _ => hcell b o) d3⟩
  · exact Rep.cells_same (E := ⟨E.w, Ab.upd E.ad id none, E.k, E.hid⟩) (E' := ⟨w', Ab.upd E.ad id none, E.k, E.hid⟩) rfl rfl (fun b hb => ⟨Nat.lt_of_lt_of_eq hb.1 hsz.symm, hb.2⟩) (fun b o _ => hcell b o) hrl
theorem cv_out {P : Program} {w0 : World} {E : Env} {M : Mem} {src dst : TypeId} {ks kd : TK} {tab : Tab} {a : AV} {v : Value} {K : AV → Mem → Prop} (hg : Good w0 E M) (hT : TabOk P tab)
 (hs : KOk P src ks) (hso : ks.known = true) (hd : KOk P dst kd) (hr : Rep E a v) (h : cvK (Nat.beq src dst) ks kd tab M a K) : Out P w0 E (convert src dst v) K := by
 unfold cvK at h
 cases hl : litC (Nat.beq src dst) ks a with
 | false => rw [hl] at h; exact conv_out hg hT hs hso hd hr h
 | true =>
  rw [hl] at h
  simp only [cond_true] at h
  unfold litC at hl
  split at hl
  · rename_i e id off n
    have he := Nat.eq_of_beq_eq_true hl
    subst he
    obtain ⟨⟨ti, k1, k2⟩, rfl, k4, blk, k5, k6, k7, k8⟩ := h
    have hu : P.underlying e = some (.int .u8) := by
     have := (hT _ _ k1).k
     cases hk : ti.k <;> rw [hk] at k2 <;> try exact k2.elim
     rename_i k
     rw [hk] at this
     cases k <;> first | exact k2.elim | exact this
    simp only [KOk] at hs
    exact const_out hg hs hu hr k5 k6 k4 k7 k8
  · cases hl
end Go.Ab
namespace Go.Ab
open Go Go.RowKit
variable {pf : Value → Mem → Prop}
structure ASt where
 sl : Slots
 m : Mem
 N : Nat
def constAV : Value → AV
 | .agg _ => .x
 | .tuple _ => .x
 | v => .c v
def ev (s : Slots) : Operand → AV
 | .tmp t => Slots.get s t
 | .const v => constAV v
 | .global g => .c (.pointer (some ⟨g, 0, none⟩))
 | .func f => .f f []
theorem rep_ev {E : Env} {s : Slots} {a : Act} (h : RepS E s a.tmps) (x' : Operand) : Rep E (ev s x') (a.eval x') := by
 cases x' with
 | tmp t => exact h t
 | const v => cases v <;> first | exact .x _ | exact .c _ rfl
 | global g => exact .c _ rfl
 | func f => exact .f _ _ _ rfl (fun i h => absurd h (by simp))
structure St (w0 : World) (E : Env) (D : List Deferred) (s : ASt) (a : Act) : Prop where
 g : Good w0 E s.m
 r : RepS E s.sl a.tmps
 n : a.tmps.size = s.N
 d : a.defers = D
def setK (s : ASt) (K : ASt → Prop) : Option Tmp → AV → Mem → Prop
 | none, _, M => K ⟨s.sl, M, s.N⟩
 | some d, a, M => d < s.N ∧ K ⟨insert s.sl d a, M, s.N⟩
theorem St.put {w0 : World} {D : List Deferred} {E E' : Env} {s : ASt} {a : Act} {K : ASt → Prop} {dst : Option Tmp} {x' : AV} {v : Value} {M : Mem} (h : St w0 E D s a) (hg : Good w0 E' M) (hl : Later E E') (hx : Rep E' x' v) (hk : setK s K dst x' M) :
 ∃ s', St w0 E' D s' (a.put dst v) ∧ K s' := by
 cases dst with
 | none => exact ⟨⟨s.sl, M, s.N⟩, ⟨hg, h.r.later hl, h.n, h.d⟩, hk⟩
 | some d =>
  obtain ⟨hd, hK⟩ := hk
  exact ⟨⟨insert s.sl d x', M, s.N⟩, ⟨hg, (h.r.later hl).put (by rw [h.n]; exact hd) hx, by simp [Act.put, h.n], h.d⟩, hK⟩
abbrev NoP : Value → Mem → Prop := fun _ _ => False
def PanOut (pf : Value → Mem → Prop) (w0 : World) (E : Env) (x : Value) (w' : World) : Prop := ∃ E' M', pf x M' ∧ E'.w = w' ∧ Good w0 E' M' ∧ Later E E'
theorem Good.panOut {pf : Value → Mem → Prop} {w0 : World} {E E' : Env} {M : Mem} {x : Value} (hg : Good w0 E' M) (hl : Later E E') (hx : pf x M) : PanOut pf w0 E x E'.w := ⟨E', M, hx, rfl, hg, hl⟩
theorem PanOut.later {pf : Value → Mem → Prop} {w0 : World} {E0 E : Env} {x : Value} {w' : World} (h : PanOut pf w0 E x w') (hl : Later E0 E) : PanOut pf w0 E0 x w' := by
 obtain ⟨E', M', h1, h2, h3, h4⟩ := h
 exact ⟨E', M', h1, h2, h3, hl.trans h4⟩
def Env.bare (E : Env) : Env := ⟨E.w, fun _ => none, E.k, E.hid⟩
theorem Good.bare {w0 : World} {E : Env} {M : Mem} (hg : Good w0 E M) : Good w0 E.bare ⟨[], E.bare.k⟩ ∧ Later E E.bare :=
 ⟨⟨hg.below, rfl, (fun _ _ h => by cases h), (fun _ _ => rfl), (fun _ _ h => by cases h), (fun _ _ h => by cases h), hg.old, (fun _ _ _ _ _ h => by cases h)⟩,
  ⟨fun b hb => ⟨⟨hb.1, hb.2.1, fun _ _ h => by cases h⟩, rfl⟩, Nat.le_refl _, (fun _ _ _ h => by cases h), rfl, fun _ _ => rfl⟩⟩
def Indep (pf : Value → Mem → Prop) : Prop := ∀ x M M', pf x M → pf x M'
def ICallG (pf : Value → Mem → Prop) (P : Program) (f : FuncId) (args : List AV) (M : Mem) (K : AV → Mem → Prop) : Prop :=
 (∃ fn, P.funcs[f]? = some fn ∧ fn.body.isNone = false ∧ (fn.name == "runtime.NumGoroutine") = false) ∧
 ∀ w0 E vs, Good w0 E M → vs.size = args.length → (∀ i (h1 : i < args.length) (h2 : i < vs.size), Rep E args[i] vs[i]) →
  Calls P f vs E.w fun e w' => (∃ v E' M' a, e = .returned v ∧ E'.w = w' ∧ Good w0 E' M' ∧ Later E E' ∧ Rep E' a v ∧ K a M') ∨ ∃ x, e = .panicked [{ v := x, recovered := false }] ∧ PanOut pf w0 E x w'
abbrev ICall (P : Program) (f : FuncId) (args : List AV) (M : Mem) (K : AV → Mem → Prop) : Prop := ICallG NoP P f args M K
def Acc (pf : Value → Mem → Prop) (K : Exit → ASt → Prop) : Prop := ∀ x s, pf x s.m → K (.panic [{ v := x, recovered := false }]) s
theorem acc_no {K : Exit → ASt → Prop} : Acc NoP K := fun _ _ h => h.elim
def pickK : AV → AV → AV → (AV → Prop) → Prop
 | .c (.bool b), x', y, K => if b = true then K x' else K y
 | _, _, _, _ => False
def nilCheckK : AV → (AV → Prop) → Prop
 | .p id i j n, K => K (.p id i j n)
 | .e cs, K => K (.e cs)
 | .f fn caps, K => K (.f fn caps)
 | .b fn caps, K => K (.b fn caps)
 | _, _ => False
def mkfK (f : FuncId) : List AV → List AV → (AV → Prop) → Prop
 | [], caps, K => K (.f f caps)
 | first, [], K => K (.b f first)
 | _, _, _ => False
def tiK (tab : Tab) (t : TypeId) (K : TI → Prop) : Prop := ∃ ti, assoc tab t = some ti ∧ K ti
def arK (k : TK) (K : Nat → TypeId → Prop) : Prop := ∃ n e, k = .ar n e ∧ K n e
def idx2K (tab : Tab) (T : TypeId) (M : Mem) : AV → AV → (AV → Mem → Prop) → Prop
 | .c (.pointer (some a)), .c (.int _ i), K => tiK tab T fun tt => arK tt.k fun n e => tiK tab e fun ti => a.spot = none ∧ 0 ≤ i ∧ i < n ∧ K (.c (.pointer (some ⟨a.block, a.off + i.toNat * ti.sz, none⟩))) M
 | x, i, K => tiK tab T fun tt => (∃ e, tt.k = .sl e ∧ tiK tab e fun ti => idxK ti.sz M x i K)
def bldK (tab : Tab) (ti : TI) (M : Mem) (ps : List (Nat × AV)) (K : AV → Mem → Prop) : TK → Prop
 | .st fs => buildK tab ti fs M ps K
 | .ar n e => ti.sz = n ∧ tiK tab e fun te => arrK n te M ps K
 | _ => False
def sapK (n sz : Nat) (M : Mem) : AV → (AV → Mem → Prop) → Prop
 | .l s xs, K => s = sz ∧ sz = 1 ∧ 0 < n ∧ n ≤ xs.length ∧ AllCell xs ∧ K (.e (xs.take n)) M
 | _, _ => False
def stK (k : TK) (K : List (Nat × TypeId) → Prop) : Prop := ∃ fs, k = .st fs ∧ K fs
def slK (k : TK) (K : TypeId → Prop) : Prop := ∃ e, k = .sl e ∧ K e
def mkiK (T : TypeId) : TK → AV → (AV → Prop) → Prop
 | .st _, .g [], K => K (.c (.iface T (.agg #[])))
 | _, _, _ => False
def panK (pf : Value → Mem → Prop) (M : Mem) : AV → Prop
 | .c (.iface T v) => pf (.iface T v) M
 | _ => False
def callValK (pf : Value → Mem → Prop) (P : Program) (M : Mem) (args : List AV) (K : AV → Mem → Prop) : AV → Prop
 | .f fn caps => ICallG pf P fn (args ++ caps) M K
 | .b fn caps => ICallG pf P fn (caps ++ args) M K
 | _ => False
def builtinK (tab : Tab) (M : Mem) (K : AV → Mem → Prop) : Builtin → List TypeId → List AV → Prop
 | .len, [t], [a] => tiK tab t fun ti => lenK ti.k a fun a => K a M
 | .append, [t, t2], [a, b] => tiK tab t fun tt => slK tt.k fun e => tiK tab e fun ti => (tiK tab t2 fun t2i => t2i.k = .str ∨ ∃ e2, t2i.k = .sl e2) ∧ appendK e ti M a b K
 | .max, _, [a, b] => maxK a b fun a => K a M
 | .min, _, [a, b] => minK a b fun a => K a M
 | .clear, [t], [a] => tiK tab t fun tt => slK tt.k fun e => tiK tab e fun ti => clearK ti M a K
 | _, _, _ => False
def opK (pf : Value → Mem → Prop) (P : Program) (tab : Tab) (s : ASt) (K : AV → Mem → Prop) : Op → Prop
 | .move x' => K (ev s.sl x') s.m
 | .assign x' => K (ev s.sl x') s.m
 | .pick c a b => pickK (ev s.sl c) (ev s.sl a) (ev s.sl b) fun a => K a s.m
 | .alloc T => tiK tab T fun ti => allocK T ti s.m K
 | .box T x' => boxK T s.m (ev s.sl x') K
 | .build T parts => tiK tab T fun ti => bldK tab ti s.m (parts.toList.map fun p => (p.1, ev s.sl p.2)) K ti.k
 | .buildSlice T n parts => tiK tab T fun tt => slK tt.k fun e => tiK tab e fun ti =>
  n = parts.toList.length ∧ (parts.toList.map fun p => p.1) = List.range' 0 n ∧ sliceK e ti s.m (parts.toList.map fun p => (p.1, ev s.sl p.2)) K
 | .load T x' => tiK tab T fun ti => ti.k.known = true ∧ loadK ti s.m (ev s.sl x') K
 | .nilCheck x' => nilCheckK (ev s.sl x') fun a => K a s.m
 | .binOp op T x' y _ => tiK tab T fun ti => binK P op T ti.k s.m (ev s.sl x') (ev s.sl y) K
 | .unOp op _ x' => unK op (ev s.sl x') fun a => K a s.m
 | .convert a b x' => tiK tab a fun ta => tiK tab b fun tb => ta.k.known = true ∧ cvK (Nat.beq a b) ta.k tb.k tab s.m (ev s.sl x') K
 | .makeFunc (.func f) first caps => mkfK f (first.toList.map fun c => ev s.sl c) (caps.toList.map fun c => ev s.sl c) fun a => K a s.m
 | .makeSlice T l c => tiK tab T fun tt => slK tt.k fun e => tiK tab e fun ti => makeK e ti s.m (ev s.sl l) (ev s.sl c) K
 | .slice T x' lo hi mx => tiK tab T fun tt => cutK tt.k tab s.m (lo.map fun o => ev s.sl o) (hi.map fun o => ev s.sl o) (mx.map fun o => ev s.sl o) (ev s.sl x') K
 | .fieldAddr S x' f => tiK tab S fun tS => stK tS.k fun fs => f < fs.length ∧ tiK tab (fs.getD f (0, 0)).2 fun ti => fieldK fs ti f s.m (ev s.sl x') K
 | .field S x' f => tiK tab S fun tS => stK tS.k fun fs => f < fs.length ∧ tiK tab (fs.getD f (0, 0)).2 fun ti => ti.k.known = true ∧ fieldVK fs ti f (ev s.sl x') fun a => K a s.m
 | .indexAddr T x' i => idx2K tab T s.m (ev s.sl x') (ev s.sl i) K
 | .sliceToArrayPointer T x' => tiK tab T fun tt => arK tt.k fun n e => tiK tab e fun ti => sapK n ti.sz s.m (ev s.sl x') K
 | .extract x' i => extractK i (ev s.sl x') fun a => K a s.m
 | .call c => match c.callee with
  | .value f => callValK pf P s.m (c.args.toList.map fun o => ev s.sl o) K (ev s.sl f)
  | .builtin b => builtinK tab s.m K b c.argTypes.toList (c.args.toList.map fun o => ev s.sl o)
  | _ => False
 | .makeInterface T x' => tiK tab T fun ti => mkiK T ti.k (ev s.sl x') fun a => K a s.m
 | .panic x' => panK pf s.m (ev s.sl x')
 | _ => False
theorem Calls.mono' {P : Program} {f : FuncId} {args : Array Value} {w : World} {R R' : Ending → World → Prop} (h : Calls P f args w R) (hr : ∀ e w', R e w' → R' e w') : Calls P f args w R' :=
 fun cs => let ⟨e, w', fr, h1, h2⟩ := h cs; ⟨e, w', fr, hr _ _ h1, h2⟩
theorem repP_ev {E : Env} {s : Slots} {a : Act} (h : RepS E s a.tmps) : ∀ (ps : List (Nat × Operand)), RepP E (ps.map fun p => (p.1, ev s p.2)) (ps.map fun p => (p.1, a.eval p.2))
 | [] => trivial
 | (i, x') :: r => ⟨rfl, rep_ev h x', repP_ev h r⟩
theorem repO_ev {E : Env} {s : Slots} {a : Act} (h : RepS E s a.tmps) (o : Option Operand) : RepO E (o.map fun o => ev s o) (o.map a.eval) := by
 cases o with
 | none => exact .none
 | some x' => exact .some _ _ (rep_ev h x')
theorem op_upon {P : Program} {tab : Tab} (hT : TabOk P tab) {w0 : World} {D : List Deferred} {E : Env} {s : ASt} {a : Act} {o : Oper} {K : AV → Mem → Prop} {next : Act → World → Prop} {Q : Exit → Act → World → Prop}
 (h : St w0 E D s a) (hop : opK pf P tab s K o.op) (hn : ∀ v E' M' x', Good w0 E' M' → Later E E' → Rep E' x' v → K x' M' → next (a.put o.dst v) E'.w) (hP : ∀ x w', PanOut pf w0 E x w' → Q (.panic [{ v := x, recovered := false }]) a w') : o.wp P a E.w next Q := by
 have hval : ∀ {sm : Sem Value}, execOp a.eval o = (do pure (.value (← sm))) → Out P w0 E sm K → o.wp P a E.w next Q := fun {sm} he ⟨v, E', M', x', h1, h2, h3, h4, h5⟩ => by
  unfold Oper.wp
  rw [he]
  simp only [Sem.run_bind, h1, Result.andThen, Sem.run_pure, Oper.upon]
  exact hn v E' M' x' h2 h3 h4 h5
 have hpure : ∀ (x' : AV) (v : Value), execOp a.eval o = pure (.value v) → Rep E x' v → K x' s.m → o.wp P a E.w next Q := fun x' v he hr hK => by
  unfold Oper.wp
  rw [he]
  simp only [Sem.run_pure, Oper.upon]
  exact hn v E s.m x' h.g (.refl E) hr hK
 have hr := fun x' => rep_ev h.r x'
 obtain ⟨dst, op, type, pos, after, guard⟩ := o
 cases op <;> try exact hop.elim
 case move x' => exact hpure _ _ rfl (hr x') hop
 case assign x' => exact hpure _ _ rfl (hr x') hop
 case pick c x' y =>
  have hc := hr c
  have hx := hr x'
  have hy := hr y
  simp only [opK] at hop
  generalize he : ev s.sl c = ac at hop hc
  generalize hv : a.eval c = vc at hc
  cases hc <;> try exact hop.elim
  rename_i hone
  cases vc <;> try exact hop.elim
  rename_i b
  refine hval (sm := do pure (if ← asBool (a.eval c) then a.eval x' else a.eval y)) (by simp [execOp]) ?_
  simp only [pickK] at hop
  cases b with
  | true =>
   simp only [if_true] at hop
   exact .val h.g (by simp [hv, asBool]) hx hop
  | false =>
   simp only [Bool.false_eq_true, if_false] at hop
   exact .val h.g (by simp [hv, asBool]) hy hop
 case alloc T =>
  obtain ⟨ti, h1, h2⟩ := hop
  exact hval rfl (alloc_out h.g (hT _ _ h1) h2)
 case box T x' => exact hval rfl (box_out h.g (hr x') hop)
 case build T parts =>
  obtain ⟨ti, h1, h3⟩ := hop
  cases hk : ti.k <;> rw [hk] at h3 <;> try exact h3.elim
  case st fs => exact hval rfl (build_out h.g hT (hT _ _ h1) hk (by simpa using repP_ev h.r parts.toList) h3)
  case ar n e =>
   obtain ⟨h4, te, h5, h6⟩ := h3
   exact hval rfl (buildA_out h.g (hT _ _ h1) hk (hT _ _ h5) h4 (by simpa using repP_ev h.r parts.toList) h6)
 case buildSlice T n parts =>
  obtain ⟨tt, h1, e, h2, ti, h3, h4, h5, h6⟩ := hop
  have hk := (hT _ _ h1).k
  rw [h2] at hk
  exact hval rfl (bslice_out h.g hk (hT _ _ h3) (by simpa using repP_ev h.r parts.toList) (by simpa using h4) (by rw [List.map_map]; rw [h4] at h5; simp only [Function.comp_def, List.length_map]; exact h5) h6)
 case load T x' =>
  obtain ⟨ti, h1, h2, h3⟩ := hop
  exact hval rfl (load_out h.g (hT _ _ h1) h2 (hr x') h3)
 case nilCheck x' =>
  have hx := hr x'
  simp only [opK] at hop
  generalize he : ev s.sl x' = ac at hop hx
  generalize hv : a.eval x' = vx at hx
  cases hx <;> try exact hop.elim
  case p id i j n ad hk hp => exact hpure _ _ (by simp only [execOp, hv]) (.p id i j n ad hk hp) hop
  case e cs b off y hz hc hr' => exact hpure _ _ (by simp only [execOp, hv]) (.e cs b off y hz hc hr') hop
  case f fn caps ys hl hr' => exact hpure _ _ (by simp only [execOp, hv]) (.f fn caps ys hl hr') hop
  case b fn caps ys hl hr' => exact hpure _ _ (by simp only [execOp, hv]) (.b fn caps ys hl hr') hop
 case binOp op T x' y yT =>
  obtain ⟨ti, h1, h2⟩ := hop
  exact hval rfl (bin_out h.g (hT _ _ h1).k (hr x') (hr y) h2)
 case unOp op T x' => exact hval rfl (un_out h.g (hr x') hop)
 case convert sa sb x' =>
  obtain ⟨ta, h1, tb, h2, h3, h4⟩ := hop
  exact hval rfl (cv_out h.g hT (hT _ _ h1).k h3 (hT _ _ h2).k (hr x') h4)
 case makeFunc fn first caps =>
  cases fn <;> try exact hop.elim
  rename_i ff
  simp only [opK] at hop
  by_cases hfi : first = #[]
  · subst hfi
    have h2 : K (.f ff (caps.toList.map fun c => ev s.sl c)) s.m := hop
    refine hval rfl (.val (a := .f _ _) h.g (v := .func (.func _) #[] (caps.map a.eval)) (by simp [Instr.makeFunc]) (.f _ _ _ (by simp) (fun i g1 g2 => ?_)) h2)
    simp only [List.getElem_map, Array.getElem_toList, Array.getElem_map]
    exact hr _
  · obtain ⟨x0, xr, hx⟩ : ∃ x r, first.toList = x :: r := by
     cases hh : first.toList with
     | nil => exact absurd (Array.toList_eq_nil_iff.1 hh) hfi
     | cons x r => exact ⟨x, r, rfl⟩
    by_cases hca : caps = #[]
    · subst hca
      have h2 : K (.b ff (first.toList.map fun c => ev s.sl c)) s.m := by
       rw [hx] at hop
       rw [hx]
       exact hop
      refine hval rfl (.val (a := .b _ _) h.g (v := .func (.func _) (first.map a.eval) #[]) (by simp [Instr.makeFunc]) (.b _ _ _ (by simp) (fun i g1 g2 => ?_)) h2)
      simp only [List.getElem_map, Array.getElem_toList, Array.getElem_map]
      exact hr _
    · obtain ⟨y0, yr, hy⟩ : ∃ x r, caps.toList = x :: r := by
       cases hh : caps.toList with
       | nil => exact absurd (Array.toList_eq_nil_iff.1 hh) hca
       | cons x r => exact ⟨x, r, rfl⟩
      rw [hx, hy] at hop
      exact hop.elim
 case makeSlice T l c =>
  obtain ⟨tt, h1, e, h2, ti, h3, h4⟩ := hop
  have hk := (hT _ _ h1).k
  rw [h2] at hk
  exact hval rfl (make_out h.g hk (hT _ _ h3) (hr l) (hr c) h4)
 case slice T x' lo hi mx =>
  obtain ⟨tt, h1, h2⟩ := hop
  exact hval rfl (cut_out h.g hT (hT _ _ h1).k (hr x') (repO_ev h.r lo) (repO_ev h.r hi) (repO_ev h.r mx) h2)
 case fieldAddr S x' f =>
  obtain ⟨tS, h1, fs, h2, h3, ti, h4, h5⟩ := hop
  have hk := (hT _ _ h1).k
  rw [h2] at hk
  exact hval rfl (field_out h.g hk h3 (hT _ _ h4) (hr x') h5)
 case field S x' f =>
  obtain ⟨tS, h1, fs, h2, h3, ti, h4, h5, h6⟩ := hop
  have hk := (hT _ _ h1).k
  rw [h2] at hk
  exact hval rfl (fieldV_out h.g hk h3 (hT _ _ h4) h5 (hr x') h6)
 case indexAddr T x' i =>
  simp only [opK] at hop
  have hx := hr x'
  have hi := hr i
  generalize ev s.sl x' = ax at hop hx
  generalize ev s.sl i = ai at hop hi
  unfold idx2K at hop
  split at hop
  · rename_i a kk j
    obtain ⟨tt, h1, n, e, h2, ti, h3, h4, h5, h6, h7⟩ := hop
    have hk := (hT _ _ h1).k
    rw [h2] at hk
    simp only [KOk] at hk
    obtain ⟨b, off, spot⟩ := a
    dsimp only at h4
    subst h4
    have ex : a.eval x' = .pointer (some ⟨b, off, none⟩) := by generalize a.eval x' = v at hx; cases hx; rfl
    have ei : a.eval i = .int kk j := by generalize a.eval i = v at hi; cases hi; rfl
    refine hval rfl ?_
    simp only [ex, ei]
    refine .val h.g (a := .c (.pointer (some ⟨b, off + j.toNat * ti.sz, none⟩))) ?_ (.c _ rfl) h7
    simp only [Instr.indexAt, Sem.run_bind, asIntOf, Sem.run_pure, run_underlying hk, Result.andThen, Instr.sureAddr, h5, h6, and_self, if_true, (hT _ _ h3).run_size]
    simp [Addr.add]
  · obtain ⟨tt, h1, e, h2, ti, h3, h4⟩ := hop
    have hk := (hT _ _ h1).k
    rw [h2] at hk
    exact hval rfl (idx_out h.g hk (hT _ _ h3) hx hi h4)
 case sliceToArrayPointer T x' =>
  obtain ⟨tt, h1, n, e, h2, ti, h3, h4⟩ := hop
  have hk := (hT _ _ h1).k
  rw [h2] at hk
  simp only [KOk] at hk
  have hx := hr x'
  generalize ev s.sl x' = ax at h4 hx
  refine hval rfl ?_
  generalize a.eval x' = vx at hx ⊢
  cases hx <;> try exact h4.elim
  case l sz xs b off cap y hcap hz hs hc hr' =>
   obtain ⟨rfl, h5, h6, h7, h8, h9⟩ := h4
   have hce : ∀ i (hi : i < xs.length), xs[i].cells = [xs[i]] := fun i hi => by
    have := h8.get i hi
    generalize xs[i] = c at this
    cases c <;> first | rfl | exact this.elim
   refine .val h.g (v := .pointer (some ⟨b, off, none⟩)) (by
    simp only [Instr.arrayAt, Sem.run_bind, run_underlying hk, Result.andThen]
    rw [if_neg (by omega)]; rfl) (.e _ b off (fun j => y j 0) hz (fun j hj => ?_) (fun j hj => ?_)) h9
   · have hj2 : j < xs.length := by simp at hj; omega
     have := hc j 0 hj2 (by omega)
     rw [h5] at this
     simpa using this
   · have hj2 : j < xs.length := by simp at hj; omega
     have := hr' j hj2 0 (by rw [hce j hj2]; simp)
     simp only [hce j hj2, List.getElem_cons_zero] at this
     rw [List.getElem_take]; exact this
  case l0 sz A cap =>
   obtain ⟨_, _, h6, h7, _⟩ := h4
   simp at h7; omega
 case extract x' i => exact hval rfl (extract_out h.g (hr x') hop)
 case makeInterface T x' =>
  obtain ⟨ti, h1, h2⟩ := hop
  have hk := (hT _ _ h1).k
  have hx := hr x'
  generalize ev s.sl x' = ax at h2 hx
  generalize hti : ti.k = k at h2 hk
  unfold mkiK at h2
  split at h2
  · rename_i fs K0
    obtain ⟨aa, hu, _⟩ := hk
    cases hv : a.eval x' with
    | agg ys =>
     rw [hv] at hx
     have hy : ys = #[] := by
      cases hx with | g _ _ hl _ => exact Array.eq_empty_of_size_eq_zero (by simpa using hl)
     subst hy
     refine hval (sm := Instr.makeInterface T (a.eval x')) rfl (.val h.g ?_ (.c (.iface T (.agg #[])) rfl) h2)
     rw [hv]
     simp [Instr.makeInterface, run_underlying hu, Result.andThen]
    | _ => rw [hv] at hx; cases hx
  · exact h2.elim
 case panic x' =>
  have hx := hr x'
  simp only [opK] at hop
  generalize ev s.sl x' = ax at hop hx
  unfold panK at hop
  split at hop
  · rename_i T v
    have hv : a.eval x' = .iface T v := by
     generalize a.eval x' = vv at hx
     cases hx; rfl
    unfold Oper.wp
    have hrun : (execOp a.eval ⟨dst, .panic x', type, pos, after, guard⟩).run P E.w = .halt (.panic (.iface T v)) E.w := by
     simp [execOp, Instr.panic, hv, goPanic, Result.andThen]
    rw [hrun]
    simp only [Oper.upon]
    exact hP _ _ (h.g.panOut (.refl E) hop)
  · exact hop.elim
 case call c =>
  obtain ⟨callee, args, ats⟩ := c
  cases callee <;> try exact hop.elim
  case value f =>
   simp only [opK] at hop
   have hf := hr f
   generalize he : ev s.sl f = af at hop hf
   generalize hv : a.eval f = vf at hf
   cases hf <;> try exact hop.elim
   case f fn caps ys hl hcaps =>
    simp only [callValK] at hop
    obtain ⟨⟨g, g1, g2, g3⟩, hc⟩ := hop
    have g2' : ¬ g.body = none := fun e => by simp [e] at g2
    have g3' : ¬ g.name = "runtime.NumGoroutine" := by simpa using g3
    have hrun : (execOp a.eval ⟨dst, .call ⟨.value f, args, ats⟩, type, pos, after, guard⟩).run P E.w = .ok (.enter fn (args.map a.eval ++ ys)) E.w := by
     simp [execOp, resolve, hv, Deferred.ofValue, invoke, callFunc, g1, g2', g3', Result.andThen]
    unfold Oper.wp
    rw [hrun]
    simp only [Oper.upon]
    refine Calls.mono' (hc w0 E (args.map a.eval ++ ys) h.g (by simp [hl]) (fun i h1 h2 => ?_)) ?_
    · by_cases hi : i < args.size
      · rw [List.getElem_append_left (by simpa using hi), Array.getElem_append_left (by simpa using hi)]
        simp only [List.getElem_map, Array.getElem_toList, Array.getElem_map]
        exact hr _
      · rw [List.getElem_append_right (by simpa using hi), Array.getElem_append_right (by simpa using hi)]
        simp only [List.length_map, Array.length_toList, Array.size_map]
        exact hcaps _ _ _
    · rintro e w' (⟨v, E', M', x', rfl, rfl, h1, h2, h3, h4⟩ | ⟨x, rfl, ho⟩)
      · exact hn v E' M' x' h1 h2 h3 h4
      · exact hP x _ ho
   case b fn caps ys hl hcaps =>
    simp only [callValK] at hop
    obtain ⟨⟨g, g1, g2, g3⟩, hc⟩ := hop
    have g2' : ¬ g.body = none := fun e => by simp [e] at g2
    have g3' : ¬ g.name = "runtime.NumGoroutine" := by simpa using g3
    have hrun : (execOp a.eval ⟨dst, .call ⟨.value f, args, ats⟩, type, pos, after, guard⟩).run P E.w = .ok (.enter fn (ys ++ args.map a.eval)) E.w := by
     simp [execOp, resolve, hv, Deferred.ofValue, invoke, callFunc, g1, g2', g3', Result.andThen]
    unfold Oper.wp
    rw [hrun]
    simp only [Oper.upon]
    refine Calls.mono' (hc w0 E (ys ++ args.map a.eval) h.g (by simp [hl]) (fun i h1 h2 => ?_)) ?_
    · by_cases hi : i < caps.length
      · rw [List.getElem_append_left hi, Array.getElem_append_left (by omega)]
        exact hcaps _ _ _
      · rw [List.getElem_append_right (by omega), Array.getElem_append_right (by omega)]
        simp only [List.getElem_map, Array.getElem_toList, Array.getElem_map, hl]
        exact hr _
    · rintro e w' (⟨v, E', M', x', rfl, rfl, h1, h2, h3, h4⟩ | ⟨x, rfl, ho⟩)
      · exact hn v E' M' x' h1 h2 h3 h4
      · exact hP x _ ho
  case builtin b =>
   simp only [opK] at hop
   have hbuilt : ∀ {sm : Sem Value}, execOp a.eval ⟨dst, .call ⟨.builtin b, args, ats⟩, type, pos, after, guard⟩ = (do let d ← resolve a.eval ⟨.builtin b, args, ats⟩ type; invoke d.target d.args) := rfl
   obtain ⟨args⟩ := args
   obtain ⟨ats⟩ := ats
   simp only at hop
   cases b <;> try (simp only [builtinK] at hop)
   case len =>
    match ats, args, hop with
    | [t], [x'], hop =>
     obtain ⟨ti, h1, h2⟩ := hop
     obtain ⟨v, E', M', y, k1, k2, k3, k4, k5⟩ := len_out (P := P) (ty := type) h.g (hT _ _ h1).k (hr x') h2
     unfold Oper.wp
     have hrun : (execOp a.eval ⟨dst, .call ⟨.builtin .len, #[x'], #[t]⟩, type, pos, after, guard⟩).run P E.w = .ok (.value v) E'.w := by
      simp [execOp, resolve, invoke, builtin, k1, Result.andThen]
     rw [hrun]
     exact hn v E' M' y k2 k3 k4 k5
   case append =>
    match ats, args, hop with
    | [t, t2], [x', y], hop =>
     obtain ⟨tt, h1, e, h2, ti, h3, ⟨t2i, h4, h5⟩, h6⟩ := hop
     have hk := (hT _ _ h1).k
     rw [h2] at hk
     have hk2 := (hT _ _ h4).k
     have hd : ∃ d2, P.underlying t2 = some d2 ∧ (d2 = .string ∨ ∃ e2, d2 = .slice e2) := by
      rcases h5 with h5 | ⟨e2, h5⟩ <;> rw [h5] at hk2
      · exact ⟨_, hk2, .inl rfl⟩
      · exact ⟨_, hk2, .inr ⟨_, rfl⟩⟩
     obtain ⟨d2, d3, d4⟩ := hd
     obtain ⟨v, E', M', z, k1, k2, k3, k4, k5⟩ := append_out (P := P) (ty := type) h.g hk (hT _ _ h3) d3 d4 (hr x') (hr y) h6
     unfold Oper.wp
     have hrun : (execOp a.eval ⟨dst, .call ⟨.builtin .append, #[x', y], #[t, t2]⟩, type, pos, after, guard⟩).run P E.w = .ok (.value v) E'.w := by
      simp [execOp, resolve, invoke, builtin, k1, Result.andThen]
     rw [hrun]
     exact hn v E' M' z k2 k3 k4 k5
   case clear =>
    match ats, args, hop with
    | [t], [x'], hop =>
     obtain ⟨tt, h1, e, h2, ti, h3, h6⟩ := hop
     have hk := (hT _ _ h1).k
     rw [h2] at hk
     obtain ⟨v, E', M', z, k1, k2, k3, k4, k5⟩ := clear_out (P := P) (ty := type) h.g hk (hT _ _ h3) (hr x') h6
     unfold Oper.wp
     have hrun : (execOp a.eval ⟨dst, .call ⟨.builtin .clear, #[x'], #[t]⟩, type, pos, after, guard⟩).run P E.w = .ok (.value v) E'.w := by
      simp [execOp, resolve, invoke, builtin, k1, Result.andThen]
     rw [hrun]
     exact hn v E' M' z k2 k3 k4 k5
   case max =>
    match ats, args, hop with
    | ats, [x', y], hop =>
     obtain ⟨v, E', M', z, k1, k2, k3, k4, k5⟩ := max_out (P := P) (ts := ats.toArray) (t := type) h.g (hr x') (hr y) hop
     unfold Oper.wp
     have hrun : (execOp a.eval ⟨dst, .call ⟨.builtin .max, #[x', y], ats.toArray⟩, type, pos, after, guard⟩).run P E.w = .ok (.value v) E'.w := by
      simp [execOp, resolve, invoke, builtin, k1, Result.andThen]
     rw [hrun]
     exact hn v E' M' z k2 k3 k4 k5
   case min =>
    match ats, args, hop with
    | ats, [x', y], hop =>
     obtain ⟨v, E', M', z, k1, k2, k3, k4, k5⟩ := min_out (P := P) (ts := ats.toArray) (t := type) h.g (hr x') (hr y) hop
     unfold Oper.wp
     have hrun : (execOp a.eval ⟨dst, .call ⟨.builtin .min, #[x', y], ats.toArray⟩, type, pos, after, guard⟩).run P E.w = .ok (.value v) E'.w := by
      simp [execOp, resolve, invoke, builtin, k1, Result.andThen]
     rw [hrun]
     exact hn v E' M' z k2 k3 k4 k5
def aop (pf : Value → Mem → Prop) (P : Program) (tab : Tab) (s : ASt) (K : ASt → Prop) (o : Oper) : Prop :=
 match o.op with
 | .store T x' y => tiK tab T fun ti => storeK ti s.m (ev s.sl x') (ev s.sl y) fun M => setK s K o.dst .x M
 | op => opK pf P tab s (fun a M => setK s K o.dst a M) op
theorem aop_sound {P : Program} {tab : Tab} (hT : TabOk P tab) {w0 : World} {D : List Deferred} {E : Env} {s : ASt} {a : Act} {o : Oper} {K : ASt → Prop} {next : Act → World → Prop} {Q : Exit → Act → World → Prop}
 (h : St w0 E D s a) (hop : aop pf P tab s K o) (hn : ∀ E' s' a', St w0 E' D s' a' → Later E E' → K s' → next a' E'.w) (hP : ∀ x w', PanOut pf w0 E x w' → Q (.panic [{ v := x, recovered := false }]) a w') : o.wp P a E.w next Q := by
 unfold aop at hop
 split at hop
 · rename_i T x' y he
   obtain ⟨ti, h1, h2⟩ := hop
   obtain ⟨E', M', k1, k2, k3, k4⟩ := store_out (P := P) h.g (hT _ _ h1) (rep_ev h.r x') (rep_ev h.r y) h2
   unfold Oper.wp
   have hrun : (execOp a.eval o).run P E.w = .ok .skip E'.w := by
    obtain ⟨dst, op, type, pos, after, guard⟩ := o
    simp only at he
    subst he
    simp only [execOp, Sem.run_bind, k1, Result.andThen, Sem.run_pure]
   rw [hrun]
   simp only [Oper.upon]
   obtain ⟨s', h3, h4⟩ := h.put (v := undef) k2 k3 (.x _) k4
   exact hn E' s' _ h3 k3 h4
 · refine op_upon hT h hop (fun v E' M' x' k1 k2 k3 k4 => ?_) hP
   obtain ⟨s', h3, h4⟩ := h.put k1 k2 k3 k4
   exact hn E' s' _ h3 k2 h4
def FF (ro : Option Nat) : Fence := { Fence.wide with round := ro }
theorem callsFF {ro : Option Nat} {n : Nat} {P : Program} {f : FuncId} {args : Array Value} {w : World} {R : Ending → World → Prop} (h : Calls P f args w R) : CallsIn (FF ro) n P f args w R := by
 cases ro with
 | none => exact callsIn_wide.2 h
 | some l => exact CallsIn.inRound l (callsIn_wide.2 h)
theorem rowsFF {ro : Option Nat} {n : Nat} {P : Program} {row : String} {args : Array Value} {w : World} {R : Value → World → Prop} (h : Rows P row args w R) : RowsIn (FF ro) n P row args w R := by
 intro c cs _
 obtain ⟨v, w', h1, h2⟩ := h c cs
 exact ⟨v, w', h1, stepsIn_wide.2 h2⟩
theorem wpIn_of_wp {ro : Option Nat} {n : Nat} {P : Program} {o : Oper} {a : Act} {w : World} {next : Act → World → Prop} {Q : Exit → Act → World → Prop} (hnd : ∀ c, o.op ≠ .defer c) (h : o.wp P a w next Q) : o.wpIn (FF ro) n P a w next Q := by
 refine ⟨fun _ _ => trivial, ?_⟩
 rw [Oper.semAt_eq _ _ _ hnd]
 unfold Oper.wp at h
 generalize (execOp a.eval o).run P w = r at h
 cases r with
 | ok v w' =>
  cases v <;> first | exact h | exact False.elim h | exact ⟨(fun h => by cases h), callsFF h⟩ | exact ⟨(fun h => by cases h), rowsFF h⟩
 | halt v w' => cases v <;> first | exact h | exact False.elim h
def gv : AV → Bool → Option Bool
 | .c (.bool c), w => some (c == w)
 | .t [], _ => some false
 | _, _ => none
def gw : Value → Option Bool
 | .bool c => some c
 | _ => none
theorem gv_wanted {E : Env} {a : AV} {v : Value} {w b : Bool} (hr : Rep E a v) (h : gv a w = some b) : (gw v == some w) = b := by
 cases hr <;> try (cases h; done)
 case c h1 =>
  cases v <;> simp only [gv] at h <;> first | (cases h; done) | (injection h)
 case t cs ys h2 h3 =>
  cases cs with
  | nil => simp only [gv] at h; injection h
  | cons _ _ => cases h
def guardK (ops : Array Oper) (s : ASt) : Option (Nat × Bool) → Prop → Prop → Prop
 | none, yes, _ => yes
 | some (j, want), yes, no => ∃ d b, ((ops[j]?).bind (·.dst)) = some d ∧ d < s.N ∧ gv (Slots.get s.sl d) want = some b ∧ if b = true then yes else no
theorem rep_undef {E : Env} : Rep E (.t []) undef := .t [] #[] rfl (fun i h => absurd h (by simp))
def aops (pf : Value → Mem → Prop) (P : Program) (tab : Tab) (ops : Array Oper) (K : ASt → Prop) : List Oper → ASt → Prop
 | [], s => K s
 | o :: r, s => guardK ops s o.guard (aop pf P tab s (fun s => aops pf P tab ops K r s) o) (setK s (fun s => aops pf P tab ops K r s) o.dst (.t []) s.m)
theorem aops_sound {P : Program} {tab : Tab} (hT : TabOk P tab) {ops : Array Oper} {K : ASt → Prop} {Q : Exit → Act → World → Prop} {w0 : World} {D : List Deferred} {ro : Option Nat} :
 ∀ (l : List Oper) (E : Env) (s : ASt) (a : Act), St w0 E D s a → aops pf P tab ops K l s → (∀ E' s' a', St w0 E' D s' a' → Later E E' → K s' → Q .normal a' E'.w) → (∀ x E1 s1 a1 w', St w0 E1 D s1 a1 → Later E E1 → PanOut pf w0 E1 x w' → Q (.panic [{ v := x, recovered := false }]) a1 w') → wpListIn (FF ro) 0 P ops Q l a E.w
 | [], E, s, a, h, hk, hn, hP => hn E s a h (.refl E) hk
 | o :: r, E, s, a, h, hk, hn, hP => by
  unfold wpListIn
  have hyes : aop pf P tab s (fun s => aops pf P tab ops K r s) o → o.wpIn (FF ro) 0 P a E.w (wpListIn (FF ro) 0 P ops Q r) Q := fun hk =>
   wpIn_of_wp (fun c e => by unfold aop at hk; rw [e] at hk; exact hk) (aop_sound hT h hk (fun E' s' a' h1 h2 h3 => aops_sound hT r E' s' a' h1 h3 (fun E2 s2 a2 g1 g2 g3 => hn E2 s2 a2 g1 (h2.trans g2) g3) fun x E1 s1 a1 w' g1 g2 g3 => hP x E1 s1 a1 w' g1 (h2.trans g2) g3) fun x w' g => hP x E s a w' h (.refl E) g)
  have hno : setK s (fun s => aops pf P tab ops K r s) o.dst (.t []) s.m → (∀ f, o.about P E.w a.eval = some f → (FF ro).fn f) ∧ wpListIn (FF ro) 0 P ops Q r (a.put o.dst undef) E.w := fun hk => by
   obtain ⟨s', h3, h4⟩ := h.put (v := undef) h.g (.refl E) rep_undef hk
   exact ⟨fun _ _ => trivial, aops_sound hT r E s' _ h3 h4 hn hP⟩
  have hk' := hk
  unfold aops at hk'
  cases hgd : o.guard with
  | none =>
   rw [hgd] at hk'
   rw [if_pos (by simp [Region.wanted, hgd])]
   exact hyes hk'
  | some p =>
   obtain ⟨j, want⟩ := p
   rw [hgd] at hk'
   obtain ⟨d, b, h1, h2, h3, h4⟩ := hk'
   have hv := h.r d
   have hy : (yielded ops a.tmps j == some want) = b := by
    unfold yielded
    rw [h1]
    have hd : d < a.tmps.size := by rw [h.n]; exact h2
    have : a.tmps.getD d undef = a.tmps[d] := by simp [Array.getD, hd]
    rw [this] at hv
    simp only [Option.bind_some, Array.getElem?_eq_getElem hd]
    have := gv_wanted hv h3
    generalize a.tmps[d] = v at this ⊢
    cases v <;> exact this
   have hw : Region.wanted o (yielded ops a.tmps) = b := by simp only [Region.wanted, hgd]; exact hy
   cases b with
   | true =>
    simp only [if_true] at h4
    rw [if_pos hw]
    exact hyes h4
   | false =>
    simp only [Bool.false_eq_true, if_false] at h4
    rw [if_neg (by simp [hw])]
    exact hno h4
def ACodeG (pf : Value → Mem → Prop) (P : Program) (c : Code) (K : Exit → ASt → Prop) (s : ASt) : Prop :=
 Acc pf K → ∀ ro w0 E D a, St w0 E D s a → c.wpIn (FF ro) 0 P (fun ex a' w' => ∃ E' s', E'.w = w' ∧ St w0 E' D s' a' ∧ Later E E' ∧ K ex s') a E.w
abbrev ACode (P : Program) (c : Code) (K : Exit → ASt → Prop) (s : ASt) : Prop := ACodeG NoP P c K s
theorem PanOut.code {w0 : World} {E0 E : Env} {x : Value} {w' : World} {D : List Deferred} {s : ASt} {a : Act} {K : Exit → ASt → Prop} (hp : PanOut pf w0 E x w') (hst : St w0 E D s a) (hl : Later E0 E) (hK : Acc pf K) :
 ∃ E' s', E'.w = w' ∧ St w0 E' D s' a ∧ Later E0 E' ∧ K (.panic [{ v := x, recovered := false }]) s' := by
 obtain ⟨E', M', hx, e, g, l⟩ := hp
 exact ⟨E', ⟨s.sl, M', s.N⟩, e, ⟨g, hst.r.later l, hst.n, hst.d⟩, hl.trans l, hK x ⟨s.sl, M', s.N⟩ hx⟩
theorem PanOut.code2 {w0 : World} {E0 E : Env} {x : Value} {w' : World} {D : List Deferred} {N : Nat} {a : Act} {K : Exit → ASt → Prop} (hp : PanOut pf w0 E x w') (hn : a.tmps.size = N) (hd : a.defers = D) (hl : Later E0 E) (hK : Acc pf K) :
 ∃ E' s', E'.w = w' ∧ St w0 E' D s' a ∧ Later E0 E' ∧ K (.panic [{ v := x, recovered := false }]) s' := by
 obtain ⟨E', M', hx, e, g, l⟩ := hp
 exact ⟨E', ⟨[], M', N⟩, e, ⟨g, (fun _ => .x _), hn, hd⟩, hl.trans l, hK x ⟨[], M', N⟩ hx⟩
def thenK (next : ASt → Prop) (K : Exit → ASt → Prop) : Exit → ASt → Prop
 | .normal, s => next s
 | e, s => K e s
def blockK (id : Nat) (K : Exit → ASt → Prop) : Exit → ASt → Prop
 | .exit j, s => if j = id then K .normal s else K (.exit j) s
 | e, s => K e s
def condK : AV → Prop → Prop → Prop
 | .c (.bool b), yes, no => if b = true then yes else no
 | _, _, _ => False
def awG (pf : Value → Mem → Prop) (P : Program) (tab : Tab) : Code → (Exit → ASt → Prop) → ASt → Prop
 | .skip, K, s => K .normal s
 | .label _, K, s => K .normal s
 | .ret, K, s => K .ret s
 | .exit id, K, s => K (.exit id) s
 | .goto l, K, s => K (.goto l) s
 | .region id ops draw, K, s => bif draw then ACodeG pf P (.region id ops true) K s else aops pf P tab ops (fun s => K .normal s) ops.toList s
 | .seq x' y, K, s => awG pf P tab x' (thenK (fun s => awG pf P tab y K s) K) s
 | .cond c x' y, K, s => condK (ev s.sl c) (awG pf P tab x' K s) (awG pf P tab y K s)
 | .block id c, K, s => awG pf P tab c (blockK id K) s
 | .loop c, K, s => ACodeG pf P (.loop c) K s
 | .rangeFunc f p x' y, K, s => ACodeG pf P (.rangeFunc f p x' y) K s
 | .scope c, K, s => ACodeG pf P (.scope c) K s
 | .refuse _, _, _ => False
abbrev aw (P : Program) (tab : Tab) (c : Code) (K : Exit → ASt → Prop) (s : ASt) : Prop := awG NoP P tab c K s
theorem ACode.mono {P : Program} {c : Code} {K K' : Exit → ASt → Prop} {s : ASt} (hK : Acc pf K) (h : ACodeG pf P c K s) (hk : ∀ e s, K e s → K' e s) : ACodeG pf P c K' s :=
 fun hK' ro w0 E D a hs => Code.wpIn_mono (fun _ _ _ ⟨E', s', h1, h2, h3, h4⟩ => ⟨E', s', h1, h2, h3, hk _ _ h4⟩) (h hK ro w0 E D a hs)
theorem aw_sound {P : Program} {tab : Tab} (hT : TabOk P tab) : ∀ (c : Code) (K : Exit → ASt → Prop) (s : ASt), awG pf P tab c K s → ACodeG pf P c K s
 | .skip, K, s, h => fun hK ro w0 E D a hs => wpIn_skip ⟨E, s, rfl, hs, .refl E, h⟩
 | .label _, K, s, h => fun hK ro w0 E D a hs => wpIn_label ⟨E, s, rfl, hs, .refl E, h⟩
 | .ret, K, s, h => fun hK ro w0 E D a hs => wpIn_ret ⟨E, s, rfl, hs, .refl E, h⟩
 | .exit id, K, s, h => fun hK ro w0 E D a hs => wpIn_exit ⟨E, s, rfl, hs, .refl E, h⟩
 | .goto l, K, s, h => fun hK ro w0 E D a hs => wpIn_goto ⟨E, s, rfl, hs, .refl E, h⟩
 | .region id ops true, K, s, h => h
 | .region id ops false, K, s, h => fun hK ro w0 E D a hs => wpIn_region_list (aops_sound hT _ E s a hs h (fun E' s' a' h1 h2 h3 => ⟨E', s', rfl, h1, h2, h3⟩) fun x E1 s1 a1 w' g1 g2 g3 => g3.code g1 g2 hK)
 | .seq x' y, K, s, h => fun hK ro w0 E D a hs => by
  refine wpIn_seq (Code.wpIn_mono ?_ (aw_sound hT x' _ s h (fun x s hx => hK x s hx) ro w0 E D a hs))
  rintro e a' w' ⟨E', s', rfl, h1, h2, h3⟩
  cases e with
  | normal => exact Code.wpIn_mono (fun _ _ _ ⟨E2, s2, g1, g2, g3, g4⟩ => ⟨E2, s2, g1, g2, h2.trans g3, g4⟩) (aw_sound hT y K s' h3 hK ro w0 E' D a' h1)
  | _ => exact ⟨E', s', rfl, h1, h2, h3⟩
 | .cond c x' y, K, s, h => fun hK ro w0 E D a hs => by
  have hc := rep_ev hs.r c
  simp only [awG] at h
  generalize ev s.sl c = ac at h hc
  generalize hv : a.eval c = v at hc
  cases hc <;> try exact h.elim
  cases v <;> try exact h.elim
  rename_i b
  refine wpIn_cond_split hv (fun hb => ?_) (fun hb => ?_)
  · subst hb
    exact aw_sound hT x' K s h hK ro w0 E D a hs
  · subst hb
    simp only [condK, Bool.false_eq_true, if_false] at h
    exact aw_sound hT y K s h hK ro w0 E D a hs
 | .block id c, K, s, h => fun hK ro w0 E D a hs => by
  refine wpIn_block (Code.wpIn_mono ?_ (aw_sound hT c _ s h (fun x s hx => hK x s hx) ro w0 E D a hs))
  rintro e a' w' ⟨E', s', rfl, h1, h2, h3⟩
  cases e with
  | exit j =>
   simp only [Exit.inBlock]
   simp only [blockK] at h3
   split <;> rename_i hj
   · rw [if_pos hj] at h3; exact ⟨E', s', rfl, h1, h2, h3⟩
   · rw [if_neg hj] at h3; exact ⟨E', s', rfl, h1, h2, h3⟩
  | _ => exact ⟨E', s', rfl, h1, h2, h3⟩
 | .loop c, K, s, h => h
 | .rangeFunc f p x' y, K, s, h => h
 | .scope c, K, s, h => h
 | .refuse _, _, _, h => h.elim
end Go.Ab
namespace Go.Ab
open Go Go.RowKit
variable {pf : Value → Mem → Prop}
def Env.keep (E : Env) (R : Nat → Bool) (k : Nat) : Env := ⟨E.w, fun i => if R i = true then E.ad i else none, k, E.hid⟩
theorem Rep.keep {E : Env} {R : Nat → Bool} {k : Nat} {a : AV} {v : Value} (hr : Rep E a v) (hu : Under k a) : Rep (E.keep R k) a v := by
 have hz : ∀ b, E.Z b → (E.keep R k).Z b := fun b h => ⟨h.1, h.2.1, fun i q hq hcp => by
  simp only [Env.keep] at hq
  split at hq
  · exact h.2.2 i q hq hcp
  · cases hq⟩
 have had : ∀ i q, (E.keep R k).ad i = some q → E.ad i = some q := fun i q hq => by
  simp only [Env.keep] at hq
  split at hq
  · exact hq
  · cases hq
 induction hr with
 | c v h => exact .c v h
 | x v => exact .x v
 | g cs ys h hr ih => cases hu with | g _ hu => exact .g cs ys h fun i h1 h2 => ih i h1 h2 (hu i h1)
 | t cs ys h hr ih => cases hu with | t _ hu => exact .t cs ys h fun i h1 h2 => ih i h1 h2 (hu i h1)
 | f fn cs ys h hr ih => cases hu with | f _ _ hu => exact .f fn cs ys h fun i h1 h2 => ih i h1 h2 (hu i h1)
 | b fn cs ys h hr ih => cases hu with | b _ _ hu => exact .b fn cs ys h fun i h1 h2 => ih i h1 h2 (hu i h1)
 | u => cases hu
 | w => cases hu
 | l sz xs b off cap y hcap hb hs hc hr ih => cases hu with | l _ _ hu => exact .l sz xs b off cap y hcap (hz b hb) hs hc fun i hi j hj => ih i hi j hj (hu i hi j hj)
 | l0 sz A cap => exact .l0 sz A cap
 | e cs b off y hb hc hr ih => cases hu with | e _ hu => exact .e cs b off y (hz b hb) hc fun j hj => ih j hj (hu j hj)
 | p id i j n a hk h =>
  cases hu with | p _ _ _ _ hu => exact .p id i j n a hu fun q hq => h q (had _ _ hq)
 | s id off n A cap hk h =>
  cases hu with | s _ _ _ hu => exact .s id off n A cap hu fun q hq => h q (had _ _ hq)
def UnderL (k : Nat) (xs : List AV) : Prop := ∀ i (hi : i < xs.length), ∀ j (hj : j < xs[i].cells.length), Under k xs[i].cells[j]
def slFit (s : Slots) (k : Nat) : Slots → Prop
 | [] => True
 | (t, a) :: r => (Slots.get s t = a ∧ Under k a) ∧ slFit s k r
def memFit (M : Mem) (k : Nat) : List (Nat × Blk) → Prop
 | [] => True
 | (id, b) :: r => (id < k ∧ M.get id = some b ∧ UnderL k b.xs) ∧ memFit M k r
def Fits (s s' : ASt) : Prop := s'.N = s.N ∧ slFit s.sl s'.m.k s'.sl ∧ memFit s.m s'.m.k s'.m.l
theorem slFit.get {s : Slots} {k : Nat} : ∀ {l : Slots}, slFit s k l → ∀ t, Slots.get l t = .x ∨ (Slots.get l t = Slots.get s t ∧ Under k (Slots.get s t))
 | [], _, t => .inl rfl
 | (t0, a) :: r, h, t => by
  by_cases e : t0 = t
  · subst e
    right
    have : Slots.get ((t0, a) :: r) t0 = a := by simp [Slots.get, assoc]
    rw [this, h.1.1]
    exact ⟨rfl, h.1.2⟩
  · have : Slots.get ((t0, a) :: r) t = Slots.get r t := by simp [Slots.get, assoc, beq_ne e]
    rw [this]
    exact slFit.get h.2 t
theorem memFit.get {M : Mem} {k : Nat} : ∀ {l : List (Nat × Blk)}, memFit M k l → ∀ id b, assoc l id = some b → id < k ∧ M.get id = some b ∧ UnderL k b.xs
 | [], _, id, b, h => by cases h
 | (i0, b0) :: r, h, id, b, he => by
  by_cases e : i0 = id
  · subst e
    simp only [assoc, Nat.beq_refl, cond_true, Option.some.injEq] at he
    subst he
    exact h.1
  · simp only [assoc, beq_ne e, cond_false] at he
    exact memFit.get h.2 id b he
theorem Good.keep {w0 : World} {E : Env} {M M' : Mem} (hg : Good w0 E M) (h : memFit M M'.k M'.l) : Good w0 (E.keep (fun i => (M'.get i).isSome) M'.k) M' := by
 have had : ∀ i q, (E.keep (fun i => (M'.get i).isSome) M'.k).ad i = some q → E.ad i = some q ∧ ∃ b, M'.get i = some b := fun i q hq => by
  simp only [Env.keep] at hq
  split at hq
  · rename_i h; exact ⟨hq, Option.isSome_iff_exists.1 h⟩
  · cases hq
 refine ⟨hg.below, rfl, fun i q hq => ?_, fun i hi => ?_, fun i blk hi => ?_, fun i q hq hcp => hg.hid i q (had i q hq).1 hcp, hg.old, fun i i' q1 q2 hne h1 h2 hc1 hc2 => hg.inj i i' q1 q2 hne (had _ _ h1).1 (had _ _ h2).1 hc1 hc2⟩
 · obtain ⟨_, b, hb⟩ := had i q hq
   exact (h.get i b hb).1
 · simp only [Env.keep, hi]; rfl
 · obtain ⟨g1, g2, g3⟩ := h.get i blk hi
   obtain ⟨q, h1, h2, h3, h4, h5⟩ := hg.held i blk g2
   refine ⟨q, by simp only [Env.keep, hi]; exact h1, h2, h3, h4, fun hcp => ⟨(h5 hcp).1, ?_⟩⟩
   obtain ⟨a0, arr, a1, a2, a3⟩ := (h5 hcp).2
   refine ⟨a0, arr, a1, a2, fun i' hi' => ⟨(a3 i' hi').1, fun j hj => ?_⟩⟩
   obtain ⟨y, b1, b2, b3⟩ := (a3 i' hi').2 j hj
   exact ⟨y, b1, b2, b3.keep (g3 i' hi' j hj)⟩
theorem Later.keep' {E0 E : Env} (h : Later E0 E) (R : Nat → Bool) {k : Nat} (hk : E0.k ≤ k) : Later E0 (E.keep R k) := by
 refine ⟨fun b hb => ⟨⟨(h.z b hb).1.1, (h.z b hb).1.2.1, fun i q hq hcp => ?_⟩, (h.z b hb).2⟩, hk, fun i hi q hq => ?_, h.hid, h.hs⟩
 · simp only [Env.keep] at hq
   split at hq
   · exact (h.z b hb).1.2.2 i q hq hcp
   · cases hq
 · simp only [Env.keep] at hq
   split at hq
   · exact h.ad i hi q hq
   · cases hq
theorem St.fit {w0 : World} {D : List Deferred} {E0 E : Env} {s s' : ASt} {a : Act} (h : St w0 E D s a) (hf : Fits s s') (hl : Later E0 E) (hk : E0.k ≤ s'.m.k) : ∃ E', E'.w = E.w ∧ St w0 E' D s' a ∧ Later E0 E' := by
 obtain ⟨h1, h2, h3⟩ := hf
 refine ⟨E.keep (fun i => (s'.m.get i).isSome) s'.m.k, rfl, ⟨h.g.keep h3, fun t => ?_, by rw [h1]; exact h.n, h.d⟩, hl.keep' _ hk⟩
 rcases h2.get t with e | ⟨e1, e2⟩
 · rw [e]; exact .x _
 · rw [e1]; exact (h.r t).keep e2
theorem loop_rule' {P : Program} {tab : Tab} (hT : TabOk P tab) {c : Code} {K : Exit → ASt → Prop} {s : ASt} {α : Type} (I : α → ASt) (G : α → Prop) (μ : α → Nat) (x0 : α) (h0 : G x0)
 (hs : Fits s (I x0)) (hk : ∀ y, s.m.k ≤ (I y).m.k)
 (round : ∀ y, G y → awG pf P tab c (thenK (fun s' => ∃ y', G y' ∧ μ y' < μ y ∧ Fits s' (I y')) K) (I y)) : ACodeG pf P (.loop c) K s := by
 intro hK ro w0 E D a hst
 obtain ⟨E1, e1, hs1, hl1⟩ := hst.fit hs (.refl E) (by rw [← hst.g.k]; exact hk _)
 rw [← e1]
 refine wpIn_loop_ghost (fun n a w => ∃ E' y, E'.w = w ∧ St w0 E' D (I y) a ∧ Later E E' ∧ G y ∧ μ y = n) (μ x0) ⟨E1, x0, rfl, hs1, hl1, h0, rfl⟩ ?_
 rintro n a w ⟨E2, y, rfl, hs2, hl2, hG, rfl⟩
 refine Code.wpIn_mono ?_ (aw_sound hT c _ _ (round y hG) (fun x s hx => hK x s hx) ro w0 E2 D a hs2)
 rintro e a' w' ⟨E3, s3, rfl, hs3, hl3, hK⟩
 cases e with
 | normal =>
  obtain ⟨y', h1, h2, h3⟩ := hK
  obtain ⟨E4, e4, hs4, hl4⟩ := hs3.fit h3 (hl2.trans hl3) (by rw [← hst.g.k]; exact hk _)
  exact ⟨μ y', h2, E4, y', e4, hs4, hl4, h1, rfl⟩
 | _ => exact ⟨E3, s3, rfl, hs3, hl2.trans hl3, hK⟩
theorem loop_rule {P : Program} {tab : Tab} (hT : TabOk P tab) {c : Code} {K : Exit → ASt → Prop} {s : ASt} {α : Type} (I : α → ASt) (G : α → Prop) (μ : α → Nat) (x0 : α) (h0 : G x0)
 (hs : Fits s (I x0)) (hk : ∀ y, (I y).m.k = s.m.k)
 (round : ∀ y, G y → awG pf P tab c (thenK (fun s' => ∃ y', G y' ∧ μ y' < μ y ∧ Fits s' (I y')) K) (I y)) : ACodeG pf P (.loop c) K s :=
 loop_rule' hT I G μ x0 h0 hs (fun y => by rw [hk]; exact Nat.le_refl _) round
def resK (tab : Tab) (sl : Slots) (M : Mem) (K : List AV → Prop) : List ResultVar → Prop
 | [] => K []
 | .tmp t :: r => resK tab sl M (fun vs => K (Slots.get sl t :: vs)) r
 | .cell d T :: r => tiK tab T fun ti => ti.k.known = true ∧ loadK ti M (Slots.get sl d) fun a _ => resK tab sl M (fun vs => K (a :: vs)) r
def oneK (K : AV → Prop) : List AV → Prop
 | [a] => K a
 | vs => K (.t vs)
def retK (tab : Tab) (fn : Func) (K : AV → Mem → Prop) : Exit → ASt → Prop
 | .normal, s => resK tab s.sl s.m (oneK fun a => K a s.m) fn.results.toList
 | .ret, s => resK tab s.sl s.m (oneK fun a => K a s.m) fn.results.toList
 | _, _ => False
def mkSlots : Nat → List AV → Slots
 | _, [] => []
 | n, a :: r => (n, a) :: mkSlots (n + 1) r
theorem mkSlots_get : ∀ (l : List AV) (n t : Nat), Slots.get (mkSlots n l) t = if n ≤ t then (l[t - n]?).getD .x else .x
 | [], n, t => by simp [mkSlots, Slots.get, assoc]
 | a :: r, n, t => by
  by_cases e : n = t
  · subst e; simp [mkSlots, Slots.get, assoc]
  · have : Slots.get (mkSlots n (a :: r)) t = Slots.get (mkSlots (n + 1) r) t := by simp [mkSlots, Slots.get, assoc, beq_ne e]
    rw [this, mkSlots_get r (n + 1) t]
    by_cases h : n ≤ t
    · rw [if_pos (by omega), if_pos h]
      have : t - n = (t - (n + 1)) + 1 := by omega
      rw [this, List.getElem?_cons_succ]
    · rw [if_neg (by omega), if_neg h]
theorem load_run {P : Program} {w0 : World} {E : Env} {M : Mem} {t : TypeId} {ti : TI} {a : AV} {v : Value} {K : AV → Mem → Prop} (hg : Good w0 E M) (ht : TOk P t ti) (ho : ti.k.known = true)
 (hr : Rep E a v) (h : loadK ti M a K) : ∃ ad u x', v = .pointer (some ad) ∧ (loadVar t ad).run P E.w = .ok u E.w ∧ Rep E x' u ∧ K x' M := by
 cases hr <;> try exact h.elim
 case p id i j n a hk hp =>
  obtain ⟨blk, hM, hn, hs, hj, hi, hK⟩ := h
  obtain ⟨q, h1, h2, h3, h4, h5, h6, hcl, y, _⟩ := own_cell hg hM hi hj
  have ha := (hp q h1).2 (by omega)
  subst ha
  obtain ⟨v, hv, hrv⟩ := load_cells (E := E) (b := q.b) (off := i * q.sz + j) (cs := blk.xs[i].cells.drop j) ht ho (fun k hk => by
   simp only [List.length_drop, hcl] at hk
   obtain ⟨q', g1, g2, g3, g4, g5, g6, _, y, g8, g9, g10⟩ := own_cell hg hM hi (j := j + k) (by omega)
   rw [h1] at g1
   cases g1
   refine ⟨y, by rw [Nat.add_assoc]; exact g8, ?_⟩
   simpa using g10) (by simp [hcl]; omega) (by simp [hcl]; omega)
  exact ⟨_, v, _, rfl, hv, hrv, hK⟩
 case c hone =>
  cases v <;> try exact h.elim
  rename_i q
  cases q with
  | none => exact h.elim
  | some a =>
   obtain ⟨b, off, spot⟩ := a
   obtain ⟨rfl, hag, hs1, vs, u, hm, hv, ho1, hK⟩ := h
   dsimp only at hm hv
   obtain ⟨v, hv2, hrv⟩ := load_cells (P := P) (E := E) (b := b) (off := off) (cs := [.c u]) ht ho (fun k hk => by
    have hk0 : k = 0 := by simpa using hk
    subst hk0
    exact ⟨u, by rw [Nat.add_zero]; exact gload_cell hg hm hv, .c u ho1⟩) (by simp [hs1]) (by simp)
   have hp : part ti [.c u] = .c u := by simp [part, hag]
   rw [hp] at hrv
   exact ⟨_, v, _, rfl, hv2, hrv, hK⟩
 case e cs b off y hz hc hr =>
  obtain ⟨hs, h0, hK⟩ := h
  obtain ⟨v, hv, hrv⟩ := load_cells (E := E) (b := b) (off := off) (cs := cs) ht ho (fun k hk => ⟨y k, (hc k hk).1, hr k hk⟩) hs h0
  exact ⟨_, v, _, rfl, hv, hrv, hK⟩
def resOne (tmps : Array Value) : ResultVar → Sem Value
 | .tmp t => pure (tmps.getD t undef)
 | .cell d t => do loadVar t (← asAddr (tmps.getD d undef))
theorem res_run {P : Program} {tab : Tab} (hT : TabOk P tab) {w0 : World} {D : List Deferred} {E : Env} {s : ASt} {a : Act} (h : St w0 E D s a) : ∀ (l : List ResultVar) (K : List AV → Prop), resK tab s.sl s.m K l →
 ∃ vs xs, (l.mapM (resOne a.tmps)).run P E.w = .ok vs E.w ∧ vs.length = xs.length ∧ (∀ i (h1 : i < xs.length) (h2 : i < vs.length), Rep E xs[i] vs[i]) ∧ K xs
 | [], K, hk => ⟨[], [], rfl, rfl, fun i h => absurd h (by simp), hk⟩
 | .tmp t :: r, K, hk => by
  obtain ⟨vs, xs, h1, h2, h3, h4⟩ := res_run hT h r _ hk
  refine ⟨a.tmps.getD t undef :: vs, Slots.get s.sl t :: xs, by simp [List.mapM_cons, resOne, h1, Result.andThen], by simp [h2], fun i g1 g2 => ?_, h4⟩
  cases i with
  | zero => exact h.r t
  | succ i => exact h3 i (by simpa using g1) (by simpa using g2)
 | .cell d T :: r, K, hk => by
  obtain ⟨ti, k1, k2, k3⟩ := hk
  obtain ⟨ad, u, x', e1, e2, e3, e4⟩ := load_run (P := P) h.g (hT _ _ k1) k2 (h.r d) k3
  obtain ⟨vs, xs, h1, h2, h3, h4⟩ := res_run hT h r _ e4
  have hone : (resOne a.tmps (.cell d T)).run P E.w = .ok u E.w := by
   simp only [resOne, Sem.run_bind, e1, asAddr, Sem.run_pure, Result.andThen, e2]
  refine ⟨u :: vs, x' :: xs, by rw [List.mapM_cons]; simp only [Sem.run_bind, hone, Result.andThen, h1, Sem.run_pure], by simp [h2], fun i g1 g2 => ?_, h4⟩
  cases i with
  | zero => exact e3
  | succ i => exact h3 i (by simpa using g1) (by simpa using g2)
theorem results_eq (fn : Func) (tmps : Array Value) : results fn tmps = (do let vs ← fn.results.mapM (resOne tmps); pure (if h : vs.size = 1 then vs[0] else .tuple vs)) := by
 unfold results
 refine congrArg (fun m : Sem (Array Value) => (do let vs ← m; pure (if h : vs.size = 1 then vs[0] else .tuple vs))) ?_
 refine congrArg (fun g : ResultVar → Sem Value => fn.results.mapM g) ?_
 funext z
 cases z <;> rfl
theorem results_run {P : Program} {tab : Tab} (hT : TabOk P tab) {w0 : World} {D : List Deferred} {E : Env} {s : ASt} {a : Act} (h : St w0 E D s a) {fn : Func} {K : AV → Prop} (hk : resK tab s.sl s.m (oneK K) fn.results.toList) :
 ∃ v x', (results fn a.tmps).run P E.w = .ok v E.w ∧ Rep E x' v ∧ K x' := by
 obtain ⟨vs, xs, h1, h2, h3, h4⟩ := res_run hT h fn.results.toList _ hk
 have hm : (fn.results.mapM (resOne a.tmps)).run P E.w = .ok vs.toArray E.w := by
  rw [Array.mapM_eq_mapM_toList]
  simp [h1, Result.andThen]
 have hrun : (results fn a.tmps).run P E.w = .ok (if h : vs.toArray.size = 1 then vs.toArray[0] else .tuple vs.toArray) E.w := by
  rw [results_eq]
  simp only [Sem.run_bind, hm, Result.andThen, Sem.run_pure]
 clear h1 hm
 match xs, vs, h2, h3, h4, hrun with
 | [x'], [v], _, h3, h4, hrun => exact ⟨v, x', by rw [hrun]; rfl, h3 0 (by simp) (by simp), h4⟩
 | [], [], _, h3, h4, hrun => exact ⟨.tuple #[], .t [], by rw [hrun]; rfl, .t [] #[] rfl (fun i h => absurd h (by simp)), h4⟩
 | x' :: y :: xs, v :: u :: vs, h2, h3, h4, hrun =>
  exact ⟨.tuple (v :: u :: vs).toArray, .t (x' :: y :: xs), by rw [hrun]; simp, .t _ _ (by simpa using h2) (fun i g1 g2 => by simpa using h3 i g1 (by simpa using g2)), h4⟩
def orP (pf : Value → Mem → Prop) (K : Exit → ASt → Prop) : Exit → ASt → Prop
 | .panic ch, s => (∃ x, pf x s.m ∧ ch = [{ v := x, recovered := false }]) ∨ K (.panic ch) s
 | e, s => K e s
theorem icall_bodyP {P : Program} {tab : Tab} (hT : TabOk P tab) {f : FuncId} {fn : Func} {c : Code} {args : List AV} {M : Mem} {K : AV → Mem → Prop} (hf : P.funcs[f]? = some fn) (hb : fn.body = some c)
 (hn : (fn.name == "runtime.NumGoroutine") = false) (hl : args.length ≤ fn.ntmps) (h : ACodeG pf P c (orP pf (retK tab fn K)) ⟨mkSlots 0 args, M, fn.ntmps⟩) : ICallG pf P f args M K := by
 refine ⟨⟨fn, hf, by rw [hb]; rfl, hn⟩, fun w0 E vs hg hs hr => calls_of_wp hf hb ?_⟩
 have hst : St w0 E [] ⟨mkSlots 0 args, M, fn.ntmps⟩ { tmps := vs ++ Array.replicate (fn.ntmps - vs.size) undef, defers := [] } := by
  refine ⟨hg, fun t => ?_, by simp; omega, rfl⟩
  simp only [mkSlots_get, Nat.zero_le, if_true, Nat.sub_zero]
  by_cases ht : t < args.length
  · rw [List.getElem?_eq_getElem ht]
    have ht2 : t < vs.size := by omega
    have : (vs ++ Array.replicate (fn.ntmps - vs.size) undef).getD t undef = vs[t] := by
     simp only [Array.getD_eq_getD_getElem?]
     rw [Array.getElem?_append_left ht2]
     simp [ht2]
    rw [this]
    exact hr t ht ht2
  · rw [List.getElem?_eq_none (by omega)]
    exact .x _
 refine Code.wp_mono ?_ (wpIn_wide.1 (h (fun x s hx => .inl ⟨x, hx, rfl⟩) none w0 E [] _ hst))
 rintro e a' w' ⟨E', s', rfl, h1, h2, h3⟩
 cases e with
 | panic ch =>
  rcases h3 with ⟨x, hx, rfl⟩ | h3
  · exact ⟨h1.d, .inr ⟨x, rfl, h1.g.panOut h2 hx⟩⟩
  · exact h3.elim
 | exit _ => exact h3.elim
 | goto _ => exact h3.elim
 | outgrown => exact h3.elim
 | _ =>
  obtain ⟨v, x', g1, g2, g3⟩ := results_run hT h1 h3
  exact ⟨h1.d, v, g1, .inl ⟨v, E', s'.m, x', rfl, rfl, h1.g, h2, g2, g3⟩⟩
theorem icall_body {P : Program} {tab : Tab} (hT : TabOk P tab) {f : FuncId} {fn : Func} {c : Code} {args : List AV} {M : Mem} {K : AV → Mem → Prop} (hf : P.funcs[f]? = some fn) (hb : fn.body = some c)
 (hn : (fn.name == "runtime.NumGoroutine") = false) (hl : args.length ≤ fn.ntmps) (h : ACode P c (retK tab fn K) ⟨mkSlots 0 args, M, fn.ntmps⟩) : ICall P f args M K :=
 icall_bodyP hT hf hb hn hl (ACode.mono acc_no h fun e s hk => by cases e <;> first | exact hk | exact .inr hk)
end Go.Ab
namespace Go.Ab
open Go Go.RowKit
variable {pf : Value → Mem → Prop}
def Weak1 : AV → AV → Prop
 | .c (.slice none 0 0), .l _ [] => True
 | a, b => a = b
theorem Weak1.rep {E : Env} {a b : AV} {v : Value} (h : Weak1 a b) (hr : Rep E a v) : Rep E b v := by
 unfold Weak1 at h
 split at h
 · cases hr; exact .l0 _ _ _
 · subst h; exact hr
theorem Weak1.g {cs : List AV} {b : AV} (h : Weak1 (.g cs) b) : AV.g cs = b := by
 rwa [Weak1.eq_2 _ _ (by intro sz h1 h2; cases h1)] at h
theorem Weak1.t {cs : List AV} {b : AV} (h : Weak1 (.t cs) b) : AV.t cs = b := by
 rwa [Weak1.eq_2 _ _ (by intro sz h1 h2; cases h1)] at h
theorem Weak1.toG {cs : List AV} {a : AV} (h : Weak1 a (.g cs)) : a = .g cs := by
 rwa [Weak1.eq_2 _ _ (by intro sz h1 h2; cases h2)] at h
theorem Weak1.toT {cs : List AV} {a : AV} (h : Weak1 a (.t cs)) : a = .t cs := by
 rwa [Weak1.eq_2 _ _ (by intro sz h1 h2; cases h2)] at h
theorem Weak1.toO {T : TypeId} {sz : Nat} {xs : List AV} {a : AV} (h : Weak1 a (.o T sz xs)) : a = .o T sz xs := by
 rwa [Weak1.eq_2 _ _ (by intro sz h1 h2; cases h2)] at h
theorem Weak1.refl (a : AV) : Weak1 a a := by
 rw [Weak1.eq_2 _ _ (by intro sz h1 h2; rw [h1] at h2; cases h2)]
def WeakL : List AV → List AV → Prop
 | [], [] => True
 | a :: r, b :: s => Weak1 a b ∧ WeakL r s
 | _, _ => False
theorem WeakL.len : ∀ {l m : List AV}, WeakL l m → l.length = m.length
 | [], [], _ => rfl
 | a :: r, b :: s, h => by simp [h.2.len]
 | [], _ :: _, h => h.elim
 | _ :: _, [], h => h.elim
theorem WeakL.get : ∀ {l m : List AV}, WeakL l m → ∀ i (h1 : i < l.length) (h2 : i < m.length), Weak1 l[i] m[i]
 | a :: r, b :: s, h, 0, _, _ => h.1
 | a :: r, b :: s, h, i + 1, h1, h2 => h.2.get i (by simpa using h1) (by simpa using h2)
 | [], [], _, i, h1, _ => absurd h1 (by simp)
 | [], _ :: _, h, _, _, _ => h.elim
 | _ :: _, [], h, _, _, _ => h.elim
theorem WeakL.refl : ∀ l, WeakL l l
 | [] => trivial
 | a :: r => ⟨.refl a, .refl r⟩
def Weak : AV → AV → Prop
 | .g cs, .g ds => WeakL cs ds
 | a, b => Weak1 a b
theorem Weak.rep {E : Env} {a b : AV} {v : Value} (h : Weak a b) (hr : Rep E a v) : Rep E b v := by
 unfold Weak at h
 split at h
 · cases hr with
   | g _ ys hl hr => exact .g _ ys (by rw [← h.len]; exact hl) fun i h1 h2 => (h.get i (by rw [h.len]; exact h1) h1).rep (hr i _ h2)
 · exact h.rep hr
def ExpC (M : Mem) : AV → AV → List Nat → List Nat → Prop
 | .s id off n, .o T sz xs, ids, fz => off = 0 ∧ ids = [id] ∧ fz = [] ∧ M.get id = some ⟨T, sz, xs⟩ ∧ n = xs.length ∧ PureL xs
 | .s id off n, .l sz xs, ids, fz => ids = [] ∧ fz = [id] ∧ blkK M id (off + n) fun blk => blk.sz = sz ∧ blk.xs.drop off = xs ∧ PureL blk.xs
 | a, b, ids, fz => Weak1 a b ∧ Under 0 b ∧ ids = [] ∧ fz = []
def ExpL (M : Mem) : List AV → List AV → List Nat → List Nat → Prop
 | [], [], ids, fz => ids = [] ∧ fz = []
 | a :: r, b :: s, ids, fz => ∃ i1 i2 f1 f2, ids = i1 ++ i2 ∧ fz = f1 ++ f2 ∧ ExpC M a b i1 f1 ∧ ExpL M r s i2 f2
 | _, _, _, _ => False
def ExpA (M : Mem) : AV → AV → List Nat → List Nat → Prop
 | .g cs, .g ds, ids, fz => ExpL M cs ds ids fz
 | a, b, ids, fz => ExpC M a b ids fz
def ExpLA (M : Mem) : List AV → List AV → List Nat → List Nat → Prop
 | [], [], ids, fz => ids = [] ∧ fz = []
 | a :: r, b :: s, ids, fz => ∃ i1 i2 f1 f2, ids = i1 ++ i2 ∧ fz = f1 ++ f2 ∧ ExpA M a b i1 f1 ∧ ExpLA M r s i2 f2
 | _, _, _, _ => False
def ExpR (M : Mem) : AV → AV → List Nat → List Nat → Prop
 | .t cs, .t ds, ids, fz => ExpLA M cs ds ids fz
 | a, b, ids, fz => ExpA M a b ids fz
def Exp (M : Mem) (a b : AV) : Prop := ∃ ids fz, ExpR M a b ids fz ∧ ids.Nodup ∧ ∀ i ∈ ids, i ∉ fz
def PCallG (pf : Value → Mem → Prop) (P : Program) (f : FuncId) (args : List AV) (res : AV) : Prop := ICallG pf P f args ⟨[], 0⟩ fun a M => Exp M a res
abbrev PCall (P : Program) (f : FuncId) (args : List AV) (res : AV) : Prop := PCallG NoP P f args res
def thawC (k : Nat) : AV → AV
 | .o _ _ xs => .s k 0 xs.length
 | a => a
def blksC : AV → List Blk
 | .o T sz xs => [⟨T, sz, xs⟩]
 | _ => []
def thawL : Nat → List AV → List AV
 | _, [] => []
 | k, a :: r => thawC k a :: thawL (k + (blksC a).length) r
def blksL : List AV → List Blk
 | [] => []
 | a :: r => blksC a ++ blksL r
def thawA (k : Nat) : AV → AV
 | .g cs => .g (thawL k cs)
 | a => thawC k a
def blksA : AV → List Blk
 | .g cs => blksL cs
 | a => blksC a
def thawLA : Nat → List AV → List AV
 | _, [] => []
 | k, a :: r => thawA k a :: thawLA (k + (blksA a).length) r
def blksLA : List AV → List Blk
 | [] => []
 | a :: r => blksA a ++ blksLA r
def thaw (k : Nat) : AV → AV
 | .t vs => .t (thawLA k vs)
 | a => thawA k a
def blks : AV → List Blk
 | .t vs => blksLA vs
 | a => blksA a
def Mem.adds (M : Mem) : List Blk → Mem
 | [] => M
 | b :: r => (newMem M b).adds r
theorem adds_k (M : Mem) : ∀ bs, (M.adds bs).k = M.k + bs.length
 | [] => rfl
 | b :: r => by
  have := adds_k (newMem M b) r
  simp only [Mem.adds, this, List.length_cons]
  simp only [newMem]; omega
theorem adds_get (M : Mem) : ∀ bs i, (M.adds bs).get i = if i < M.k then M.get i else (if i - M.k < bs.length then bs[i - M.k]? else M.get i)
 | [], i => by simp [Mem.adds]
 | b :: r, i => by
  have := adds_get (newMem M b) r i
  simp only [Mem.adds, this]
  have hk : (newMem M b).k = M.k + 1 := rfl
  have hg : (newMem M b).get i = if M.k = i then some b else M.get i := by simp [newMem, Mem.get, assoc_insert]
  rw [hk, hg]
  by_cases h1 : i < M.k
  · rw [if_pos (by omega), if_neg (by omega), if_pos h1]
  · by_cases h2 : M.k = i
    · subst h2
      simp
    · rw [if_neg (by omega), if_neg h1]
      simp only [h2, if_false, List.length_cons]
      have : i - M.k = (i - (M.k + 1)) + 1 := by omega
      by_cases h3 : i - (M.k + 1) < r.length
      · rw [if_pos h3, if_pos (by omega), this, List.getElem?_cons_succ]
      · rw [if_neg h3, if_neg (by omega)]
inductive Flat : AV → Prop where
 | c (v : Value) : Flat (.c v)
 | g (cs : List AV) (h : ∀ i (hi : i < cs.length), Flat cs[i]) : Flat (.g cs)
 | t (cs : List AV) (h : ∀ i (hi : i < cs.length), Flat cs[i]) : Flat (.t cs)
theorem Rep.flat {E E' : Env} {a : AV} {v : Value} (h : Rep E a v) (hf : Flat a) : Rep E' a v := by
 induction h with
 | c v h => exact .c v h
 | g cs ys h hr ih => cases hf with | g _ hf => exact .g cs ys h fun i h1 h2 => ih i h1 h2 (hf i h1)
 | t cs ys h hr ih => cases hf with | t _ hf => exact .t cs ys h fun i h1 h2 => ih i h1 h2 (hf i h1)
 | _ => cases hf
theorem Rep.pure {E E' : Env} (hz : ∀ b, E.Z b → E'.Z b ∧ E'.w.heap[b]? = E.w.heap[b]?) {a : AV} {v : Value} (hr : Rep E a v) (hu : Under 0 a) : Rep E' a v := by
 induction hr with
 | c v h => exact .c v h
 | x v => exact .x v
 | g cs ys h hr ih => cases hu with | g _ hu => exact .g cs ys h fun i h1 h2 => ih i h1 h2 (hu i h1)
 | t cs ys h hr ih => cases hu with | t _ hu => exact .t cs ys h fun i h1 h2 => ih i h1 h2 (hu i h1)
 | f fn cs ys h hr ih => cases hu with | f _ _ hu => exact .f fn cs ys h fun i h1 h2 => ih i h1 h2 (hu i h1)
 | b fn cs ys h hr ih => cases hu with | b _ _ hu => exact .b fn cs ys h fun i h1 h2 => ih i h1 h2 (hu i h1)
 | u => cases hu
 | w => cases hu
 | l sz xs b off cap y hcap hb hs hc hr ih =>
  cases hu with | l _ _ hu =>
  refine .l sz xs b off cap y hcap (hz b hb).1 hs (fun i j hi hj => ?_) fun i hi j hj => ih i hi j hj (hu i hi j hj)
  rw [cell_same (hz b hb).2]; exact hc i j hi hj
 | l0 sz A cap => exact .l0 sz A cap
 | e cs b off y hb hc hr ih =>
  cases hu with | e _ hu =>
  refine .e cs b off y (hz b hb).1 (fun j hj => ?_) fun j hj => ih j hj (hu j hj)
  rw [cell_same (hz b hb).2]; exact hc j hj
 | p id i j n a hk h => cases hu; omega
 | s id off n A cap hk h => cases hu; omega
def Env.import (E1 E' : Env) (ids : List Nat) : Env := ⟨E'.w, fun i => if i < E1.k then E1.ad i else (ids[i - E1.k]?).bind E'.ad, E1.k + ids.length, E1.hid⟩
theorem Good.lt_b {w0 : World} {E : Env} {M : Mem} (hg : Good w0 E M) {i : Nat} {q : At} (hq : E.ad i = some q) (hcp : 0 < q.cp) : w0.heap.size ≤ q.b ∧ q.b < E.w.heap.size := by
 cases hM : M.get i with
 | none => rw [hg.gone i hM] at hq; cases hq
 | some blk =>
  obtain ⟨q1, b1, _, _, _, b5⟩ := hg.held i blk hM
  rw [hq] at b1; cases b1
  exact ⟨(b5 hcp).1, backed_lt (b5 hcp).2⟩
theorem Good.import {w0 : World} {E1 E' : Env} {M1 M' : Mem} (hg : Good w0 E1 M1) (hc : Good E1.w E' M') (ids : List Nat) (bs : List Blk) (hn : ids.Nodup) (hlen : ids.length = bs.length)
 (hb : ∀ j (h1 : j < ids.length) (h2 : j < bs.length), M'.get ids[j] = some bs[j])
 (hmove : ∀ b ∈ bs, ∀ i (hi : i < b.xs.length), ∀ j (hj : j < b.xs[i].cells.length), ∀ v, Rep E' b.xs[i].cells[j] v → Rep (E1.import E' ids) b.xs[i].cells[j] v) :
 Good w0 (E1.import E' ids) (M1.adds bs) ∧ Later E1 (E1.import E' ids) := by
 have hw := hc.below
 have hnew : ∀ i q, E1.k ≤ i → (E1.import E' ids).ad i = some q → ∃ h : i - E1.k < ids.length, E'.ad ids[i - E1.k] = some q := fun i q hi hq => by
  simp only [Env.import, if_neg (Nat.not_lt.2 hi)] at hq
  cases h : ids[i - E1.k]? with
  | none => rw [h] at hq; cases hq
  | some id =>
   rw [h] at hq
   obtain ⟨h1, h2⟩ := List.getElem?_eq_some_iff.1 h
   exact ⟨h1, by rw [h2]; exact hq⟩
 have hold : ∀ i, i < E1.k → (E1.import E' ids).ad i = E1.ad i := fun i hi => by simp only [Env.import, if_pos hi]
 have hl : Later E1 (E1.import E' ids) := by
  refine ⟨fun b hb => ⟨⟨Nat.lt_of_lt_of_le hb.1 hw.size, hb.2.1, fun i q hq hcp => ?_⟩, hw.block b hb.1⟩, by show E1.k ≤ E1.k + ids.length; omega, fun i hi q hq => ?_, rfl, fun b hb => hw.block b (hg.old b hb)⟩
  · by_cases hi : i < E1.k
    · rw [hold i hi] at hq; exact hb.2.2 i q hq hcp
    · obtain ⟨_, h2⟩ := hnew i q (by omega) hq
      have := (hc.lt_b h2 hcp).1
      have := hb.1
      omega
  · rw [hold i hi] at hq; exact ⟨q, hq, Nat.le_refl _, fun _ => rfl, fun _ _ => ⟨rfl, rfl⟩⟩
 refine ⟨⟨hg.below.trans (hw.mono hg.below.size), by rw [adds_k, hg.k, ← hlen]; rfl, fun i q hq => ?_, fun i hi => ?_, fun i blk hi => ?_, fun i q hq hcp => ?_, fun b hb => Nat.lt_of_lt_of_le (hg.old b hb) hw.size, fun i i' q1 q2 hne h1 h2 hc1 hc2 => ?_⟩, hl⟩
 · show i < E1.k + ids.length
   by_cases hi : i < E1.k
   · omega
   · obtain ⟨h1, _⟩ := hnew i q (by omega) hq; omega
 · rw [adds_get] at hi
   by_cases h : i < M1.k
   · rw [if_pos h] at hi
     rw [hold i (by rw [← hg.k]; exact h)]
     exact hg.gone i hi
   · rw [if_neg h] at hi
     by_cases h2 : i - M1.k < bs.length
     · rw [if_pos h2, List.getElem?_eq_getElem h2] at hi; cases hi
     · cases hq : (E1.import E' ids).ad i with
       | none => rfl
       | some q =>
        obtain ⟨h3, _⟩ := hnew i q (by rw [← hg.k]; omega) hq
        rw [← hg.k] at h3; omega
 · rw [adds_get] at hi
   by_cases h : i < M1.k
   · rw [if_pos h] at hi
     obtain ⟨q, h1, h2, h3, h4, h5⟩ := hg.held i blk hi
     exact ⟨q, by rw [hold i (by rw [← hg.k]; exact h)]; exact h1, h2, h3, h4, fun hcp => ⟨(h5 hcp).1, ((h5 hcp).2).later hl (hw.block _ (backed_lt (h5 hcp).2))⟩⟩
   · rw [if_neg h] at hi
     by_cases h2 : i - M1.k < bs.length
     · rw [if_pos h2, List.getElem?_eq_getElem h2] at hi
       injection hi with hi
       have h3 : i - E1.k < ids.length := by rw [← hg.k, hlen]; exact h2
       have hke : i - E1.k = i - M1.k := by rw [hg.k]
       have hget := hb (i - E1.k) h3 (by rw [← hlen]; exact h3)
       simp only [hke] at hget h3
       rw [hi] at hget
       obtain ⟨q, a1, a2, a3, a4, a5⟩ := hc.held _ _ hget
       refine ⟨q, ?_, a2, a3, a4, fun hcp => ⟨Nat.le_trans hg.below.size (a5 hcp).1, ?_⟩⟩
       · simp only [Env.import]
         rw [if_neg (by rw [← hg.k]; exact h), hke, List.getElem?_eq_getElem h3]
         exact a1
       · obtain ⟨c0, arr, c1, c2, c3⟩ := (a5 hcp).2
         refine ⟨c0, arr, c1, c2, fun i' hi' => ⟨(c3 i' hi').1, fun j hj => ?_⟩⟩
         obtain ⟨y, d1, d2, d3⟩ := (c3 i' hi').2 j hj
         exact ⟨y, d1, d2, hmove blk (by rw [← hi]; exact List.getElem_mem _) i' hi' j hj y d3⟩
     · rw [if_neg h2] at hi
       obtain ⟨q, h1, _⟩ := hg.held i blk hi
       have := hg.lt _ _ h1
       rw [hg.k] at h; omega
 · by_cases hi : i < E1.k
   · rw [hold i hi] at hq; exact hg.hid i q hq hcp
   · obtain ⟨_, h2⟩ := hnew i q (by omega) hq
     intro hh
     have h3 := hg.old _ hh
     have h4 := (hc.lt_b h2 hcp).1
     have := hg.below.size
     omega
 · by_cases hi : i < E1.k
   · rw [hold i hi] at h1
     by_cases hi' : i' < E1.k
     · rw [hold i' hi'] at h2
       exact hg.inj i i' q1 q2 hne h1 h2 hc1 hc2
     · obtain ⟨_, g2⟩ := hnew i' q2 (by omega) h2
       have := (hg.lt_b h1 hc1).2
       have := (hc.lt_b g2 hc2).1
       omega
   · obtain ⟨e1, g1⟩ := hnew i q1 (by omega) h1
     by_cases hi' : i' < E1.k
     · rw [hold i' hi'] at h2
       have := (hg.lt_b h2 hc2).2
       have := (hc.lt_b g1 hc1).1
       omega
     · obtain ⟨e2, g2⟩ := hnew i' q2 (by omega) h2
       refine hc.inj _ _ q1 q2 (fun e => ?_) g1 g2 hc1 hc2
       have := (List.getElem_inj hn).1 e
       omega
structure Comes2 (E' : Env) (M' : Mem) (ids : List Nat) (bs : List Blk) : Prop where
 len : ids.length = bs.length
 get : ∀ j (h1 : j < ids.length) (h2 : j < bs.length), M'.get ids[j] = some bs[j]
theorem Comes2.append {E' : Env} {M' : Mem} {i1 i2 : List Nat} {b1 b2 : List Blk} (h1 : Comes2 E' M' i1 b1) (h2 : Comes2 E' M' i2 b2) : Comes2 E' M' (i1 ++ i2) (b1 ++ b2) := by
 refine ⟨by simp [h1.len, h2.len], fun j g1 g2 => ?_⟩
 have hl := h1.len
 by_cases h : j < i1.length
 · rw [List.getElem_append_left h, List.getElem_append_left (by omega)]; exact h1.get _ _ _
 · rw [List.getElem_append_right (by omega), List.getElem_append_right (by omega)]
   have := h2.get (j - i1.length) (by simp at g1; omega) (by rw [← h2.len]; simp at g1; omega)
   simp only [hl] at this ⊢
   exact this
end Go.Ab
