/- Operations on values: fields, literals, slices, lengths, conversions, tests. -/
import Derived.Test.YtpjmbigfgoogaacAb8
set_option linter.unusedVariables false
set_option linter.unusedSimpArgs false
set_option linter.constructorNameAsVariable false
namespace Go.Ab
open Go Go.RowKit

theorem Out.mono {P : Program} {w0 : World} {E : Env} {s : Sem Value} {K K' : AV → Mem → Prop} (h : Out P w0 E s K) (hk : ∀ a M, K a M → K' a M) : Out P w0 E s K' := by
  obtain ⟨v, E', M', a, h1, h2, h3, h4, h5⟩ := h
  exact ⟨v, E', M', a, h1, h2, h3, h4, hk _ _ h5⟩

/-- A part of a struct's value. -/
def fieldVK (fs : List (Nat × TypeId)) (ti : TI) (f : Nat) : AV → (AV → Prop) → Prop
  | .g cs, K => (fs.getD f (0, 0)).1 + ti.sz ≤ cs.length ∧ (fs.getD f (0, 0)).1 < cs.length ∧ K (part ti (cs.drop (fs.getD f (0, 0)).1))
  | _, _ => False
theorem part_run {P : Program} {E : Env} {t : TypeId} {ti : TI} (ht : TOk P t ti) (ho : ti.k.known = true) {cs : List AV} {ys : Array Value} {o : Nat} (hl : ys.size = cs.length)
    (hr : ∀ i (h1 : i < cs.length) (h2 : i < ys.size), Rep E cs[i] ys[i]) (h1 : o + ti.sz ≤ cs.length) (h2 : o < cs.length) :
    ∃ v, (Go.part t ys o).run P E.w = .ok v E.w ∧ Rep E (part ti (cs.drop o)) v := by
  unfold part
  cases ha : ti.k.agg with
  | true =>
    refine ⟨_, by simp only [Go.part, Sem.run_bind, ht.run_agg ho, ha, Result.andThen, if_true, ht.run_size, Sem.run_pure]; rfl, ?_⟩
    refine .g _ _ (by simp; omega) (fun k h3 h4 => ?_)
    simp only [List.getElem_take, List.getElem_drop, Array.getElem_extract]
    exact hr _ _ _
  | false =>
    have h3 : o < ys.size := by omega
    refine ⟨ys[o], by simp [Go.part, ht.run_agg ho, ha, Result.andThen, h3], ?_⟩
    have : (cs.drop o).headD .x = cs[o] := by
      rw [List.drop_eq_getElem_cons h2]; rfl
    simp only [cond_false, this]
    exact hr _ _ _
theorem fieldV_out {P : Program} {w0 : World} {E : Env} {M : Mem} {S : TypeId} {fs : List (Nat × TypeId)} {ti : TI} {f : Nat} {a : AV} {v : Value} {K : AV → Mem → Prop} (hg : Good w0 E M)
    (hS : KOk P S (.st fs)) (hf : f < fs.length) (ht : TOk P (fs.getD f (0, 0)).2 ti) (ho : ti.k.known = true) (hr : Rep E a v) (h : fieldVK fs ti f a fun a => K a M) : Out P w0 E (Instr.field S v f) K := by
  obtain ⟨A, hA, hfs⟩ := hS
  have hfl : f < A.size := by rw [← hfs] at hf; simpa using hf
  have hfd : fs.getD f (0, 0) = (A[f].offset, A[f].type) := by
    subst hfs
    simp [List.getD, hfl]
  rw [hfd] at ht
  cases hr <;> try exact h.elim
  rename_i cs ys hl hr
  obtain ⟨h1, h2, hK⟩ := h
  rw [hfd] at h1 h2 hK
  obtain ⟨v, hv, hrv⟩ := part_run (P := P) (E := E) ht ho hl hr h1 h2
  exact .val hg (by simp only [Instr.field, Sem.run_bind, run_underlying hA, Result.andThen, Array.getElem?_eq_getElem hfl, asAgg, Sem.run_pure]; exact hv) hrv hK

/-- One result of several. -/
def extractK (i : Nat) : AV → (AV → Prop) → Prop
  | .t vs, K => Elem vs i K
  | _, _ => False
theorem extract_out {P : Program} {w0 : World} {E : Env} {M : Mem} {i : Nat} {a : AV} {v : Value} {K : AV → Mem → Prop} (hg : Good w0 E M) (hr : Rep E a v) (h : extractK i a fun a => K a M) :
    Out P w0 E (Instr.extract v i) K := by
  cases hr <;> try exact h.elim
  rename_i cs ys hl hr
  obtain ⟨hi, hK⟩ := h
  have hi2 : i < ys.size := by omega
  exact .val hg (by simp [Instr.extract, hi2]) (hr i hi hi2) hK

/-- How many. -/
def lenK : TK → AV → (AV → Prop) → Prop
  | .sl _, .s _ _ n, K => K (.c (.int .i64 n))
  | .sl _, .l _ xs, K => K (.c (.int .i64 xs.length))
  | .sl _, .c (.slice _ n _), K => K (.c (.int .i64 n))
  | .str, .c (.string s), K => K (.c (.int .i64 s.size))
  | _, _, _ => False
theorem len_out {P : Program} {w0 : World} {E : Env} {M : Mem} {t ty : TypeId} {k : TK} {a : AV} {v : Value} {K : AV → Mem → Prop} (hg : Good w0 E M)
    (ht : KOk P t k) (hr : Rep E a v) (h : lenK k a fun a => K a M) : Out P w0 E (Builtin.len_ #[t] ty #[v]) K := by
  have e1 : ∀ s, P.underlying t = some .string → (Builtin.len_ #[t] ty #[.string s]).run P E.w = .ok (.int .i64 s.size) E.w := fun s h => by
    simp [Builtin.len_, run_underlying h, goInt]
  have e2 : ∀ A n c e, P.underlying t = some (.slice e) → (Builtin.len_ #[t] ty #[.slice A n c]).run P E.w = .ok (.int .i64 n) E.w := fun A n c e h => by
    simp [Builtin.len_, run_underlying h, goInt]
  cases k <;> try exact h.elim
  · -- a text
    cases hr <;> try exact h.elim
    cases v <;> first | exact h.elim | exact .val hg (e1 _ ht) (.c _ rfl) h
  · cases hr <;> try exact h.elim
    case c => cases v <;> first | exact h.elim | exact .val hg (e2 _ _ _ _ ht) (.c _ rfl) h
    all_goals exact .val hg (e2 _ _ _ _ ht) (.c _ rfl) h

/-- A struct's value out of its parts. -/
def fillA (tab : Tab) (fs : List (Nat × TypeId)) : List AV → List (Nat × AV) → (List AV → Prop) → Prop
  | cs, [], K => K cs
  | cs, (i, a) :: r, K => i < fs.length ∧ (∃ ti, assoc tab (fs.getD i (0, 0)).2 = some ti ∧ a.cells.length = ti.sz ∧ (fs.getD i (0, 0)).1 + ti.sz ≤ cs.length) ∧ Cells a ∧
      fillA tab fs (splice cs (fs.getD i (0, 0)).1 a.cells) r K

theorem fold_get? (off : Nat) : ∀ (l : List Value) (n : Nat) (cs : Array Value) (k : Nat), off + n + l.length ≤ cs.size →
    ((l.zipIdx n).foldl (fun cs p => cs.setIfInBounds (off + p.2) p.1) cs)[k]? = if off + n ≤ k ∧ k < off + n + l.length then l[k - (off + n)]? else cs[k]?
  | [], n, cs, k, _ => by rw [if_neg (by simp only [List.length_nil]; omega)]; rfl
  | v :: r, n, cs, k, h => by
    simp only [List.zipIdx_cons, List.foldl_cons, List.length_cons] at h ⊢
    rw [fold_get? off r (n + 1) _ k (by simp; omega)]
    by_cases h1 : k = off + n
    · subst h1
      rw [if_neg (by omega), if_pos (by omega)]
      simp only [Array.getElem?_setIfInBounds, if_true, Nat.sub_self, List.getElem?_cons_zero]
      rw [if_pos (by omega)]
    · by_cases h2 : off + n ≤ k ∧ k < off + n + (r.length + 1)
      · rw [if_pos h2, if_pos (by omega)]
        have : k - (off + n) = (k - (off + (n + 1))) + 1 := by omega
        rw [this, List.getElem?_cons_succ]
      · rw [if_neg h2, if_neg (by omega)]
        simp only [Array.getElem?_setIfInBounds]
        rw [if_neg (by omega)]
theorem fold_size (off : Nat) : ∀ (l : List Value) (n : Nat) (cs : Array Value), ((l.zipIdx n).foldl (fun cs p => cs.setIfInBounds (off + p.2) p.1) cs).size = cs.size
  | [], n, cs => rfl
  | v :: r, n, cs => by simp [List.zipIdx_cons, fold_size off r (n + 1)]

/-- The parts of a literal, as they are told. -/
def RepP (E : Env) : List (Nat × AV) → List (Nat × Value) → Prop
  | [], [] => True
  | (i, a) :: r, (j, v) :: s => i = j ∧ Rep E a v ∧ RepP E r s
  | _, _ => False

theorem fill_rep {P : Program} {E : Env} {tab : Tab} (hT : TabOk P tab) {fs : List (Nat × TypeId)} {place : Nat → Option (Nat × Nat)}
    (hp : ∀ i ti, i < fs.length → assoc tab (fs.getD i (0, 0)).2 = some ti → place i = some ((fs.getD i (0, 0)).1, ti.sz)) {K : List AV → Prop} :
    ∀ (ps : List (Nat × AV)) (vs : List (Nat × Value)) (cs : List AV) (ys : Array Value), RepP E ps vs → ys.size = cs.length → (∀ i (h1 : i < cs.length) (h2 : i < ys.size), Rep E cs[i] ys[i]) →
      fillA tab fs cs ps K → ∃ cs' ys', Instr.fill place ys vs = some ys' ∧ ys'.size = cs'.length ∧ (∀ i (h1 : i < cs'.length) (h2 : i < ys'.size), Rep E cs'[i] ys'[i]) ∧ K cs'
  | [], [], cs, ys, _, hl, hr, h => ⟨cs, ys, rfl, hl, hr, h⟩
  | (i, a) :: r, (j, v) :: s, cs, ys, hrp, hl, hr, h => by
    obtain ⟨rfl, hav, hrs⟩ := hrp
    obtain ⟨hi, ⟨ti, hti, hsz, hle⟩, hc, h⟩ := h
    obtain ⟨g1, g2⟩ := hav.cells hc
    have hpl := hp i ti hi hti
    obtain ⟨o, ho⟩ : ∃ o, o = (fs.getD i (0, 0)).1 := ⟨_, rfl⟩
    rw [← ho] at hpl hle h
    have hvl : v.cells.toList.length = v.cells.size := by simp
    have hfit : o + a.cells.length ≤ cs.length := by omega
    have hfold : v.cells.zipIdx.foldl (fun cs x => cs.setIfInBounds (o + x.2) x.1) ys = (v.cells.toList.zipIdx 0).foldl (fun cs p => cs.setIfInBounds (o + p.2) p.1) ys := by
      rw [← Array.foldl_toList, Array.toList_zipIdx]
    obtain ⟨cs', ys', f1, f2, f3, f4⟩ := fill_rep hT hp r s (splice cs o a.cells) ((v.cells.toList.zipIdx 0).foldl (fun cs p => cs.setIfInBounds (o + p.2) p.1) ys) hrs
      (by rw [fold_size, splice_length hfit, hl]) (fun k h1 h2 => by
        have h3 : k < cs.length := by rw [splice_length hfit] at h1; exact h1
        have h4 := fold_get? o v.cells.toList 0 ys k (by omega)
        rw [splice_get hfit h1 h3]
        rw [Array.getElem?_eq_getElem h2] at h4
        split
        · rename_i hin
          rw [if_pos (by omega)] at h4
          have h5 : k - o < v.cells.size := by omega
          have h6 := (g2 (k - o) (by omega) h5).2
          have h7 : v.cells.toList[k - (o + 0)]? = some v.cells[k - o] := by simp [h5]
          rw [h7] at h4
          injection h4 with h4
          rw [h4]; exact h6
        · rename_i hin
          rw [if_neg (by omega)] at h4
          have h5 : k < ys.size := by omega
          rw [Array.getElem?_eq_getElem h5] at h4
          injection h4 with h4
          rw [h4]; exact hr k h3 h5) h
    refine ⟨cs', ys', ?_, f2, f3, f4⟩
    rw [Instr.fill, hpl]
    simp only
    rw [if_neg (by simp only [Bool.or_eq_true, decide_eq_true_eq, not_or]; omega), hfold]
    exact f1
  | [], _ :: _, _, _, h, _, _, _ => h.elim
  | _ :: _, [], _, _, h, _, _, _ => h.elim
end Go.Ab
