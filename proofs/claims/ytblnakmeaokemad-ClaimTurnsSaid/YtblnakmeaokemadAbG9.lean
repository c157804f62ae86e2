/- A variable that has nothing yet, taken for a row of the call's own without elements. Structs of whole numbers are compared. -/
import Derived.Test.YtblnakmeaokemadAbG8
import Derived.Laws.StructEq
set_option linter.unusedVariables false
set_option linter.constructorNameAsVariable false
set_option linter.unusedSimpArgs false
namespace Go.Ab
open Go Go.RowKit

def Env.adopt (E : Env) (sz : Nat) : Env := ⟨E.w, fun i => if i = E.k then some ⟨0, sz, 0, 0⟩ else E.ad i, E.k + 1, E.hid⟩
theorem Good.adopt {w0 : World} {E : Env} {M : Mem} (hg : Good w0 E M) (T : TypeId) (sz : Nat) : Good w0 (E.adopt sz) (newMem M ⟨T, sz, []⟩) ∧ Later E (E.adopt sz) := by
  have hne : ∀ id q, E.ad id = some q → id ≠ E.k := fun id q h e => by have := hg.lt id q h; omega
  have hz : ∀ b, E.Z b → (E.adopt sz).Z b := fun b hb => ⟨hb.1, hb.2.1, fun id q hq hcp => by
    simp only [Env.adopt] at hq
    split at hq
    · simp only [Option.some.injEq] at hq; subst hq; simp at hcp
    · exact hb.2.2 id q hq hcp⟩
  have hl : Later E (E.adopt sz) := ⟨fun b hb => ⟨hz b hb, rfl⟩, by simp [Env.adopt], fun id hid q' hq => by
    simp only [Env.adopt] at hq
    rw [if_neg (by omega)] at hq
    exact ⟨q', hq, Nat.le_refl _, fun _ => rfl⟩, rfl, fun _ _ => rfl⟩
  have hget : ∀ id, (newMem M ⟨T, sz, []⟩).get id = if id = E.k then some ⟨T, sz, []⟩ else M.get id := fun id => by
    show assoc (insert M.l M.k _) id = _
    rw [assoc_insert, hg.k]
    by_cases e : id = E.k
    · subst e; simp
    · simp [e, Ne.symm e, Mem.get]
  refine ⟨⟨hg.below, by show M.k + 1 = E.k + 1; rw [hg.k], fun id q hq => ?_, fun id hM => ?_, fun id blk hM => ?_, fun id q hq hcp => ?_, hg.old, fun i i' q q' hi h1 h2 c1 c2 => ?_⟩, hl⟩
  · simp only [Env.adopt] at hq ⊢
    split at hq
    · omega
    · have := hg.lt id q hq; omega
  · rw [hget] at hM
    simp only [Env.adopt]
    split at hM
    · cases hM
    · rename_i e; rw [if_neg e]; exact hg.gone id hM
  · rw [hget] at hM
    simp only [Env.adopt]
    split at hM
    · rename_i e
      simp only [Option.some.injEq] at hM
      subst hM
      exact ⟨_, by rw [if_pos e], rfl, rfl, Nat.le_refl _, fun h => by simp at h⟩
    · rename_i e
      obtain ⟨q, a1, a2, a3, a4, a5⟩ := hg.held id blk hM
      refine ⟨q, by rw [if_neg e]; exact a1, a2, a3, a4, fun hcp => ⟨(a5 hcp).1, ?_⟩⟩
      obtain ⟨d0, arr, d1, d2, d3⟩ := (a5 hcp).2
      refine ⟨d0, arr, d1, d2, fun i hi => ⟨(d3 i hi).1, fun j hj => ?_⟩⟩
      obtain ⟨y, y1, y2, y3⟩ := (d3 i hi).2 j hj
      exact ⟨y, y1, y2, y3.later hl⟩
  · simp only [Env.adopt] at hq
    split at hq
    · simp only [Option.some.injEq] at hq; subst hq; simp at hcp
    · exact hg.hid id q hq hcp
  · simp only [Env.adopt] at h1 h2
    split at h1
    · simp only [Option.some.injEq] at h1; subst h1; simp at c1
    · split at h2
      · simp only [Option.some.injEq] at h2; subst h2; simp at c2
      · exact hg.inj i i' q q' hi h1 h2 c1 c2
theorem adopt_rule {P : Program} {c : Code} {K : Exit → ASt → Prop} {sl : Slots} {m : Mem} {N : Nat} (t : Nat) (T : TypeId) (sz : Nat) (ht : Slots.get sl t = .c (.slice none 0 0)) (h : ACode P c K ⟨insert sl t (.s m.k 0 0), newMem m ⟨T, sz, []⟩, N⟩) : ACode P c K ⟨sl, m, N⟩ := fun ro w0 E D a hst => by
  obtain ⟨hg, hl⟩ := hst.g.adopt T sz
  have hE : (E.adopt sz).w = E.w := rfl
  rw [← hE]
  refine Code.wpIn_mono (fun _ _ _ ⟨E', s', h1, h2, h3, h4⟩ => ⟨E', s', h1, h2, hl.trans h3, h4⟩) (h ro w0 (E.adopt sz) D a ⟨hg, fun u => ?_, hst.n, hst.d⟩)
  unfold Slots.get
  rw [assoc_insert]
  by_cases e : t = u
  · subst e
    have hr := hst.r t
    rw [show Slots.get sl t = _ from ht] at hr
    generalize a.tmps.getD t undef = v at hr ⊢
    have hv : v = .slice none 0 0 := by cases hr; rfl
    simp only [if_true, Option.getD_some]
    rw [hv]
    have hk : m.k = E.k := hst.g.k
    refine .s _ 0 0 none 0 (by show m.k < E.k + 1; omega) fun q hq => ?_
    simp only [Env.adopt, hk, if_true, Option.some.injEq] at hq
    subst hq
    exact ⟨Nat.le_refl _, fun _ => ⟨rfl, fun h => by simp at h⟩⟩
  · simp only [if_neg e]
    exact (hst.r u).later hl
end Go.Ab

set_option linter.unusedVariables false
set_option linter.constructorNameAsVariable false
set_option linter.unusedSimpArgs false
namespace Go.Ab
open Go Go.RowKit

def valI (l : List Int) : Array Value := (l.map fun a => Value.int .i64 a).toArray
theorem valI_get (l : List Int) (i : Nat) : (valI l)[i]? = l[i]?.map fun a => Value.int .i64 a := by simp [valI]
theorem valI_extract (l : List Int) (a b : Nat) : (valI l).extract a b = valI ((l.drop a).take (b - a)) := by
  simp [valI, List.extract]
/-- Structs of a type, of n whole numbers, are the same if those are. -/
def EqI (P : Program) (D : Nat) (t : TypeId) (n : Nat) : Prop :=
  ∀ d w (as bs : List Int), as.length = n → bs.length = n → (Op.equalIn (d + D) t (.agg (valI as)) (.agg (valI bs))).run P w = .ok (decide (as = bs)) w
theorem EqI.mono {P : Program} {D : Nat} {t : TypeId} {n k : Nat} (h : EqI P D t n) : EqI P (k + D) t n := fun d w as bs h1 h2 => by
  have := h (d + k) w as bs h1 h2
  rwa [Nat.add_assoc] at this
inductive FsI (P : Program) (D : Nat) : Nat → Nat → List Field → Prop
  | nil {n : Nat} : FsI P D n n []
  | int {off n : Nat} {f : Field} {fs : List Field} (h1 : f.name ≠ "_") (h2 : f.offset = off) (h3 : P.underlying f.type = some (.int .i64)) (h : FsI P D (off + 1) n fs) : FsI P D off n (f :: fs)
  | st {off n m : Nat} {f : Field} {fs : List Field} {ti : TI} (h1 : f.name ≠ "_") (h2 : f.offset = off) (h3 : TOk P f.type ti) (h4 : ti.sz = m) (h5 : ti.k.agg = true) (h6 : EqI P D f.type m) (h : FsI P D (off + m) n fs) : FsI P D off n (f :: fs)
theorem FsI.le {P : Program} {D off n : Nat} {fs : List Field} (h : FsI P D off n fs) : off ≤ n := by
  induction h with
  | nil => exact Nat.le_refl _
  | int h1 h2 h3 h ih => omega
  | st h1 h2 h3 h4 h5 h6 h ih => omega
theorem drop_split {as : List Int} {off m : Nat} : as.drop off = (as.drop off).take m ++ as.drop (off + m) := by
  rw [← List.drop_drop, List.take_append_drop]
theorem drop_one {as : List Int} {off : Nat} (h : off < as.length) : as.drop off = as[off] :: as.drop (off + 1) := List.drop_eq_getElem_cons h
theorem FsI.run {P : Program} {D : Nat} {off n : Nat} {fs : List Field} (h : FsI P (D + 1) off n fs) : ∀ d w (as bs : List Int), as.length = n → bs.length = n →
    (Op.eqFields (d + (D + 1)) (valI as) (valI bs) fs).run P w = .ok (decide (as.drop off = bs.drop off)) w := by
  induction h with
  | nil => intro d w as bs h1 h2; rw [List.drop_eq_nil_of_le (by omega), List.drop_eq_nil_of_le (by omega)]; simp [Op.eqFields]
  | int k1 k2 k3 k ih =>
    rename_i off n f fs
    intro d w as bs h1 h2
    have hle := k.le
    have hp : ∀ l : List Int, l.length = n → (Go.part f.type (valI l) off).run P w = .ok (.int .i64 (l.getD off 0)) w := fun l hl => by
      have ha : (isAgg f.type).run P w = .ok false w := by simp [isAgg, run_underlying k3]
      have hg : (valI l)[off]? = some (.int .i64 (l.getD off 0)) := by rw [valI_get, List.getD_eq_getElem?_getD, List.getElem?_eq_getElem (by omega)]; rfl
      simp [Go.part, ha, Result.andThen, hg]
    simp only [Op.eqFields, k1, ne_eq, not_false_eq_true, if_true, Sem.run_bind, k2, hp as h1, hp bs h2, Result.andThen_ok]
    rw [show d + (D + 1) = (d + D) + 1 by omega, run_equalIn_int w (d + D) f.type .i64 .i64 _ _ k3]
    simp only [Result.andThen_ok]
    have ea : as.drop off = as.getD off 0 :: as.drop (off + 1) := by rw [drop_one (by omega), List.getD_eq_getElem?_getD, List.getElem?_eq_getElem (by omega)]; rfl
    have eb : bs.drop off = bs.getD off 0 :: bs.drop (off + 1) := by rw [drop_one (by omega), List.getD_eq_getElem?_getD, List.getElem?_eq_getElem (by omega)]; rfl
    rw [ea, eb]
    generalize as.getD off 0 = x
    generalize bs.getD off 0 = y
    by_cases e : x = y
    · have := ih d w as bs h1 h2
      rw [show d + (D + 1) = (d + D) + 1 by omega] at this
      simp [e, this]
    · simp [e]
  | st k1 k2 k3 k4 k5 k6 k ih =>
    rename_i off n m f fs ti
    intro d w as bs h1 h2
    have hle := k.le
    have hp : ∀ l : List Int, l.length = n → (Go.part f.type (valI l) off).run P w = .ok (.agg (valI ((l.drop off).take m))) w := fun l hl => by
      have hko : ti.k.known = true := by cases hk : ti.k <;> rw [hk] at k5 <;> first | rfl | cases k5
      simp only [Go.part, Sem.run_bind, k3.run_agg hko, k5, Result.andThen_ok, if_true, k3.run_size, Sem.run_pure, valI_extract, k4]
      rw [Nat.add_sub_cancel_left]
    simp only [Op.eqFields, k1, ne_eq, not_false_eq_true, if_true, Sem.run_bind, k2, hp as h1, hp bs h2, Result.andThen_ok]
    rw [k6 d w _ _ (by rw [List.length_take, List.length_drop]; omega) (by rw [List.length_take, List.length_drop]; omega)]
    simp only [Result.andThen_ok]
    have key : as.drop off = bs.drop off ↔ ((as.drop off).take m = (bs.drop off).take m ∧ as.drop (off + m) = bs.drop (off + m)) :=
      ⟨fun h => ⟨by rw [h], by rw [← List.drop_drop, ← List.drop_drop, h]⟩, fun h => by
        have e1 := drop_split (as := as) (off := off) (m := m)
        have e2 := drop_split (as := bs) (off := off) (m := m)
        rw [h.1, h.2] at e1
        exact e1.trans e2.symm⟩
    rw [show decide (as.drop off = bs.drop off) = decide ((as.drop off).take m = (bs.drop off).take m ∧ as.drop (off + m) = bs.drop (off + m)) from decide_eq_decide.2 key]
    have hi := ih d w as bs h1 h2
    by_cases e : (as.drop off).take m = (bs.drop off).take m
    · simp [e, hi]
    · simp [e]
theorem EqI.of {P : Program} {D : Nat} {t : TypeId} {n : Nat} {fs : Array Field} (ht : P.underlying t = some (.struct fs)) (hp : P.stoodInHeld t = false) (h : FsI P (D + 1) 0 n fs.toList) : EqI P (D + 2) t n := fun d w as bs h1 h2 => by
  have hf : P.fieldsOf t = fs := by simp [Program.fieldsOf, ht]
  have := run_equalIn_struct (P := P) w (d + (D + 1)) t (valI as) (valI bs) (by rw [hf]; exact ht) hp
  rw [show d + (D + 2) = d + (D + 1) + 1 by omega, this, hf]
  have := h.run d w as bs h1 h2
  simpa using this
theorem rep_ints {E : Env} : ∀ {l : List Int} {ys : Array Value}, Rep E (.g (l.map fun a => .c (.int .i64 a))) (.agg ys) → ys = valI l := fun {l ys} h => by
  cases h with | g _ _ h hr =>
  refine Array.ext (by simpa [valI] using h) fun i h1 h2 => ?_
  have := hr i (by simpa [valI] using h2) h1
  simp only [List.getElem_map] at this
  have e : (valI l)[i] = .int .i64 (l[i]'(by simpa [valI] using h2)) := by simp [valI]
  rw [e]
  generalize ys[i] = v at this
  cases this; rfl
theorem ints_rep {E : Env} (l : List Int) : Rep E (.g (l.map fun a => .c (.int .i64 a))) (.agg (valI l)) := .g _ _ (by simp [valI]) fun i h1 h2 => by
  simp only [valI, List.getElem_toArray, List.getElem_map]
  exact .c _ rfl
theorem AggEq.ints {P : Program} {D : Nat} {t : TypeId} {n : Nat} (h : EqI P D t n) (hD : D ≤ 10000) (hg : P.eqGuardType P.depth t = false) {l m : List Int} (h1 : l.length = n) (h2 : m.length = n) :
    AggEq P t (l.map fun a => .c (.int .i64 a)) (m.map fun a => .c (.int .i64 a)) (decide (l = m)) := fun E ys zs hy hz x y => by
  have e1 := rep_ints hy
  have e2 := rep_ints hz
  subst e1; subst e2
  have hr := h (10000 - D) E.w l m h1 h2
  rw [Nat.sub_add_cancel hD] at hr
  refine ⟨?_, ?_⟩
  · simp only [Sem.run_bind, run_eqGuard_agg E.w .eql t x y _ _ hg, Result.andThen_ok, run_eql_struct, hr]
  · simp only [Sem.run_bind, run_eqGuard_agg E.w .neq t x y _ _ hg, Result.andThen_ok, run_neq_struct, hr]
theorem AggEq.uniq {P : Program} {t : TypeId} {l m : List Int} {a b : Bool} (h : AggEq P t (l.map fun a => .c (.int .i64 a)) (m.map fun a => .c (.int .i64 a)) a) (k : AggEq P t (l.map fun a => .c (.int .i64 a)) (m.map fun a => .c (.int .i64 a)) b) : a = b := by
  have h1 := (h ⟨default, fun _ => none, 0, fun _ => False⟩ _ _ (ints_rep l) (ints_rep m) (.tmp 0) (.tmp 0)).1
  have h2 := (k ⟨default, fun _ => none, 0, fun _ => False⟩ _ _ (ints_rep l) (ints_rep m) (.tmp 0) (.tmp 0)).1
  rw [h1] at h2
  simpa using h2
theorem agg_eql {P : Program} {D : Nat} {t : TypeId} {n : Nat} (h : EqI P D t n) (hD : D ≤ 10000) (hg : P.eqGuardType P.depth t = false) {l m : List Int} (h1 : l.length = n) (h2 : m.length = n) {M : Mem} {K : AV → Mem → Prop} {p : Prop} [Decidable p] (hp : l = m ↔ p) :
    aggBinK P t M (l.map fun a => .c (.int .i64 a)) (m.map fun a => .c (.int .i64 a)) K .eql = K (.c (.bool (decide p))) M := by
  have ha := AggEq.ints h hD hg h1 h2
  rw [show decide (l = m) = decide p from decide_eq_decide.2 hp] at ha
  exact propext ⟨fun ⟨b, h3, h4⟩ => h3.uniq ha ▸ h4, fun h => ⟨_, ha, h⟩⟩
theorem agg_neq {P : Program} {D : Nat} {t : TypeId} {n : Nat} (h : EqI P D t n) (hD : D ≤ 10000) (hg : P.eqGuardType P.depth t = false) {l m : List Int} (h1 : l.length = n) (h2 : m.length = n) {M : Mem} {K : AV → Mem → Prop} {p : Prop} [Decidable p] (hp : l = m ↔ p) :
    aggBinK P t M (l.map fun a => .c (.int .i64 a)) (m.map fun a => .c (.int .i64 a)) K .neq = K (.c (.bool (!decide p))) M := by
  have ha := AggEq.ints h hD hg h1 h2
  rw [show decide (l = m) = decide p from decide_eq_decide.2 hp] at ha
  exact propext ⟨fun ⟨b, h3, h4⟩ => h3.uniq ha ▸ h4, fun h => ⟨_, ha, h⟩⟩
end Go.Ab
