/- A variable that has nothing yet, taken for a row of the call's own without elements. Structs of whole numbers are compared. Drawn regions: what adds blocks only, and what reads old blocks only, may change places. A part of a variable that has nothing yet, taken for a row of the call's own without elements. A variable that has nothing yet, seen as a row of data without elements. Arrays of bytes are compared. -/
import Derived.Test.YtcikejikpnjilaaAbG8
import Derived.Laws.StructEq
import Derived.Test.YtcikejikpnjilaaAbG6
import Derived.ChangeKeysEq
set_option linter.unusedVariables false
set_option linter.constructorNameAsVariable false
set_option linter.unusedSimpArgs false
namespace Go.Ab
open Go Go.RowKit

def Env.adopt (E : Env) (sz : Nat) : Env := ⟨E.w, fun i => if i = E.k then some ⟨0, sz, 0, 0⟩ else E.ad i, E.k + 1, E.hid⟩
theorem Good.adopt {w0 : World} {E : Env} {M : Mem} (hg : Good w0 E M) (T : TypeId) (sz : Nat) : Good w0 (E.adopt sz) (newMem M ⟨T, sz, []⟩) ∧ Later E (E.adopt sz) := by
  have hne : ∀ id q, E.ad id = some q → id ≠ E.k := fun id q h e => by have := hg.lt id q h; omega
  have hz : ∀ b, E.Z b → (E.adopt sz).Z b := fun b hb => ⟨hb.1, hb.2.1, fun id q hq hcp => by
    simp only [Env.adopt] at hq
    split at hq
    · simp only [Option.some.injEq] at hq; subst hq; simp at hcp
    · exact hb.2.2 id q hq hcp⟩
  have hl : Later E (E.adopt sz) := ⟨fun b hb => ⟨hz b hb, rfl⟩, by simp [Env.adopt], fun id hid q' hq => by
    simp only [Env.adopt] at hq
    rw [if_neg (by omega)] at hq
    exact ⟨q', hq, Nat.le_refl _, fun _ => rfl, fun _ _ => ⟨rfl, rfl⟩⟩, rfl, fun _ _ => rfl⟩
  have hget : ∀ id, (newMem M ⟨T, sz, []⟩).get id = if id = E.k then some ⟨T, sz, []⟩ else M.get id := fun id => by
    show assoc (insert M.l M.k _) id = _
    rw [assoc_insert, hg.k]
    by_cases e : id = E.k
    · subst e; simp
    · simp [e, Ne.symm e, Mem.get]
  refine ⟨⟨hg.below, by show M.k + 1 = E.k + 1; rw [hg.k], fun id q hq => ?_, fun id hM => ?_, fun id blk hM => ?_, fun id q hq hcp => ?_, hg.old, fun i i' q q' hi h1 h2 c1 c2 => ?_⟩, hl⟩
  · simp only [Env.adopt] at hq ⊢
    split at hq
    · omega
    · have := hg.lt id q hq; omega
  · rw [hget] at hM
    simp only [Env.adopt]
    split at hM
    · cases hM
    · rename_i e; rw [if_neg e]; exact hg.gone id hM
  · rw [hget] at hM
    simp only [Env.adopt]
    split at hM
    · rename_i e
      simp only [Option.some.injEq] at hM
      subst hM
      exact ⟨_, by rw [if_pos e], rfl, rfl, Nat.le_refl _, fun h => by simp at h⟩
    · rename_i e
      obtain ⟨q, a1, a2, a3, a4, a5⟩ := hg.held id blk hM
      refine ⟨q, by rw [if_neg e]; exact a1, a2, a3, a4, fun hcp => ⟨(a5 hcp).1, ?_⟩⟩
      obtain ⟨d0, arr, d1, d2, d3⟩ := (a5 hcp).2
      refine ⟨d0, arr, d1, d2, fun i hi => ⟨(d3 i hi).1, fun j hj => ?_⟩⟩
      obtain ⟨y, y1, y2, y3⟩ := (d3 i hi).2 j hj
      exact ⟨y, y1, y2, y3.later hl⟩
  · simp only [Env.adopt] at hq
    split at hq
    · simp only [Option.some.injEq] at hq; subst hq; simp at hcp
    · exact hg.hid id q hq hcp
  · simp only [Env.adopt] at h1 h2
    split at h1
    · simp only [Option.some.injEq] at h1; subst h1; simp at c1
    · split at h2
      · simp only [Option.some.injEq] at h2; subst h2; simp at c2
      · exact hg.inj i i' q q' hi h1 h2 c1 c2
theorem adopt_rule {P : Program} {c : Code} {K : Exit → ASt → Prop} {sl : Slots} {m : Mem} {N : Nat} (t : Nat) (T : TypeId) (sz : Nat) (ht : Slots.get sl t = .c (.slice none 0 0)) (h : ACode P c K ⟨insert sl t (.s m.k 0 0), newMem m ⟨T, sz, []⟩, N⟩) : ACode P c K ⟨sl, m, N⟩ := fun ro w0 E D a hst => by
  obtain ⟨hg, hl⟩ := hst.g.adopt T sz
  have hE : (E.adopt sz).w = E.w := rfl
  rw [← hE]
  refine Code.wpIn_mono (fun _ _ _ ⟨E', s', h1, h2, h3, h4⟩ => ⟨E', s', h1, h2, hl.trans h3, h4⟩) (h ro w0 (E.adopt sz) D a ⟨hg, fun u => ?_, hst.n, hst.d⟩)
  unfold Slots.get
  rw [assoc_insert]
  by_cases e : t = u
  · subst e
    have hr := hst.r t
    rw [show Slots.get sl t = _ from ht] at hr
    generalize a.tmps.getD t undef = v at hr ⊢
    have hv : v = .slice none 0 0 := by cases hr; rfl
    simp only [if_true, Option.getD_some]
    rw [hv]
    have hk : m.k = E.k := hst.g.k
    refine .s _ 0 0 none 0 (by show m.k < E.k + 1; omega) fun q hq => ?_
    simp only [Env.adopt, hk, if_true, Option.some.injEq] at hq
    subst hq
    exact ⟨Nat.le_refl _, fun _ => ⟨rfl, fun h => by simp at h⟩⟩
  · simp only [if_neg e]
    exact (hst.r u).later hl
end Go.Ab

set_option linter.unusedVariables false
set_option linter.constructorNameAsVariable false
set_option linter.unusedSimpArgs false
namespace Go.Ab
open Go Go.RowKit

def valI (l : List Int) : Array Value := (l.map fun a => Value.int .i64 a).toArray
theorem valI_get (l : List Int) (i : Nat) : (valI l)[i]? = l[i]?.map fun a => Value.int .i64 a := by simp [valI]
theorem valI_extract (l : List Int) (a b : Nat) : (valI l).extract a b = valI ((l.drop a).take (b - a)) := by
  simp [valI, List.extract]
/-- Structs of a type, of n whole numbers, are the same if those are. -/
def EqI (P : Program) (D : Nat) (t : TypeId) (n : Nat) : Prop :=
  ∀ d w (as bs : List Int), as.length = n → bs.length = n → (Op.equalIn (d + D) t (.agg (valI as)) (.agg (valI bs))).run P w = .ok (decide (as = bs)) w
theorem EqI.mono {P : Program} {D : Nat} {t : TypeId} {n k : Nat} (h : EqI P D t n) : EqI P (k + D) t n := fun d w as bs h1 h2 => by
  have := h (d + k) w as bs h1 h2
  rwa [Nat.add_assoc] at this
inductive FsI (P : Program) (D : Nat) : Nat → Nat → List Field → Prop
  | nil {n : Nat} : FsI P D n n []
  | int {off n : Nat} {f : Field} {fs : List Field} (h1 : f.name ≠ "_") (h2 : f.offset = off) (h3 : P.underlying f.type = some (.int .i64)) (h : FsI P D (off + 1) n fs) : FsI P D off n (f :: fs)
  | st {off n m : Nat} {f : Field} {fs : List Field} {ti : TI} (h1 : f.name ≠ "_") (h2 : f.offset = off) (h3 : TOk P f.type ti) (h4 : ti.sz = m) (h5 : ti.k.agg = true) (h6 : EqI P D f.type m) (h : FsI P D (off + m) n fs) : FsI P D off n (f :: fs)
theorem FsI.le {P : Program} {D off n : Nat} {fs : List Field} (h : FsI P D off n fs) : off ≤ n := by
  induction h with
  | nil => exact Nat.le_refl _
  | int h1 h2 h3 h ih => omega
  | st h1 h2 h3 h4 h5 h6 h ih => omega
theorem drop_split {as : List Int} {off m : Nat} : as.drop off = (as.drop off).take m ++ as.drop (off + m) := by
  rw [← List.drop_drop, List.take_append_drop]
theorem drop_one {as : List Int} {off : Nat} (h : off < as.length) : as.drop off = as[off] :: as.drop (off + 1) := List.drop_eq_getElem_cons h
theorem FsI.run {P : Program} {D : Nat} {off n : Nat} {fs : List Field} (h : FsI P (D + 1) off n fs) : ∀ d w (as bs : List Int), as.length = n → bs.length = n →
    (Op.eqFields (d + (D + 1)) (valI as) (valI bs) fs).run P w = .ok (decide (as.drop off = bs.drop off)) w := by
  induction h with
  | nil => intro d w as bs h1 h2; rw [List.drop_eq_nil_of_le (by omega), List.drop_eq_nil_of_le (by omega)]; simp [Op.eqFields]
  | int k1 k2 k3 k ih =>
    rename_i off n f fs
    intro d w as bs h1 h2
    have hle := k.le
    have hp : ∀ l : List Int, l.length = n → (Go.part f.type (valI l) off).run P w = .ok (.int .i64 (l.getD off 0)) w := fun l hl => by
      have ha : (isAgg f.type).run P w = .ok false w := by simp [isAgg, run_underlying k3]
      have hg : (valI l)[off]? = some (.int .i64 (l.getD off 0)) := by rw [valI_get, List.getD_eq_getElem?_getD, List.getElem?_eq_getElem (by omega)]; rfl
      simp [Go.part, ha, Result.andThen, hg]
    simp only [Op.eqFields, k1, ne_eq, not_false_eq_true, if_true, Sem.run_bind, k2, hp as h1, hp bs h2, Result.andThen_ok]
    rw [show d + (D + 1) = (d + D) + 1 by omega, run_equalIn_int w (d + D) f.type .i64 .i64 _ _ k3]
    simp only [Result.andThen_ok]
    have ea : as.drop off = as.getD off 0 :: as.drop (off + 1) := by rw [drop_one (by omega), List.getD_eq_getElem?_getD, List.getElem?_eq_getElem (by omega)]; rfl
    have eb : bs.drop off = bs.getD off 0 :: bs.drop (off + 1) := by rw [drop_one (by omega), List.getD_eq_getElem?_getD, List.getElem?_eq_getElem (by omega)]; rfl
    rw [ea, eb]
    generalize as.getD off 0 = x
    generalize bs.getD off 0 = y
    by_cases e : x = y
    · have := ih d w as bs h1 h2
      rw [show d + (D + 1) = (d + D) + 1 by omega] at this
      simp [e, this]
    · simp [e]
  | st k1 k2 k3 k4 k5 k6 k ih =>
    rename_i off n m f fs ti
    intro d w as bs h1 h2
    have hle := k.le
    have hp : ∀ l : List Int, l.length = n → (Go.part f.type (valI l) off).run P w = .ok (.agg (valI ((l.drop off).take m))) w := fun l hl => by
      have hko : ti.k.known = true := by cases hk : ti.k <;> rw [hk] at k5 <;> first | rfl | cases k5
      simp only [Go.part, Sem.run_bind, k3.run_agg hko, k5, Result.andThen_ok, if_true, k3.run_size, Sem.run_pure, valI_extract, k4]
      rw [Nat.add_sub_cancel_left]
    simp only [Op.eqFields, k1, ne_eq, not_false_eq_true, if_true, Sem.run_bind, k2, hp as h1, hp bs h2, Result.andThen_ok]
    rw [k6 d w _ _ (by rw [List.length_take, List.length_drop]; omega) (by rw [List.length_take, List.length_drop]; omega)]
    simp only [Result.andThen_ok]
    have key : as.drop off = bs.drop off ↔ ((as.drop off).take m = (bs.drop off).take m ∧ as.drop (off + m) = bs.drop (off + m)) :=
      ⟨fun h => ⟨by rw [h], by rw [← List.drop_drop, ← List.drop_drop, h]⟩, fun h => by
        have e1 := drop_split (as := as) (off := off) (m := m)
        have e2 := drop_split (as := bs) (off := off) (m := m)
        rw [h.1, h.2] at e1
        exact e1.trans e2.symm⟩
    rw [show decide (as.drop off = bs.drop off) = decide ((as.drop off).take m = (bs.drop off).take m ∧ as.drop (off + m) = bs.drop (off + m)) from decide_eq_decide.2 key]
    have hi := ih d w as bs h1 h2
    by_cases e : (as.drop off).take m = (bs.drop off).take m
    · simp [e, hi]
    · simp [e]
theorem EqI.of {P : Program} {D : Nat} {t : TypeId} {n : Nat} {fs : Array Field} (ht : P.underlying t = some (.struct fs)) (hp : P.stoodInHeld t = false) (h : FsI P (D + 1) 0 n fs.toList) : EqI P (D + 2) t n := fun d w as bs h1 h2 => by
  have hf : P.fieldsOf t = fs := by simp [Program.fieldsOf, ht]
  have := run_equalIn_struct (P := P) w (d + (D + 1)) t (valI as) (valI bs) (by rw [hf]; exact ht) hp
  rw [show d + (D + 2) = d + (D + 1) + 1 by omega, this, hf]
  have := h.run d w as bs h1 h2
  simpa using this
theorem rep_ints {E : Env} : ∀ {l : List Int} {ys : Array Value}, Rep E (.g (l.map fun a => .c (.int .i64 a))) (.agg ys) → ys = valI l := fun {l ys} h => by
  cases h with | g _ _ h hr =>
  refine Array.ext (by simpa [valI] using h) fun i h1 h2 => ?_
  have := hr i (by simpa [valI] using h2) h1
  simp only [List.getElem_map] at this
  have e : (valI l)[i] = .int .i64 (l[i]'(by simpa [valI] using h2)) := by simp [valI]
  rw [e]
  generalize ys[i] = v at this
  cases this; rfl
theorem ints_rep {E : Env} (l : List Int) : Rep E (.g (l.map fun a => .c (.int .i64 a))) (.agg (valI l)) := .g _ _ (by simp [valI]) fun i h1 h2 => by
  simp only [valI, List.getElem_toArray, List.getElem_map]
  exact .c _ rfl
theorem AggEq.ints {P : Program} {D : Nat} {t : TypeId} {n : Nat} (h : EqI P D t n) (hD : D ≤ 10000) (hg : P.eqGuardType P.depth t = false) {l m : List Int} (h1 : l.length = n) (h2 : m.length = n) :
    AggEq P t (l.map fun a => .c (.int .i64 a)) (m.map fun a => .c (.int .i64 a)) (decide (l = m)) := fun E ys zs hy hz x y => by
  have e1 := rep_ints hy
  have e2 := rep_ints hz
  subst e1; subst e2
  have hr := h (10000 - D) E.w l m h1 h2
  rw [Nat.sub_add_cancel hD] at hr
  refine ⟨?_, ?_⟩
  · simp only [Sem.run_bind, run_eqGuard_agg E.w .eql t x y _ _ hg, Result.andThen_ok, run_eql_struct, hr]
  · simp only [Sem.run_bind, run_eqGuard_agg E.w .neq t x y _ _ hg, Result.andThen_ok, run_neq_struct, hr]
theorem AggEq.uniq {P : Program} {t : TypeId} {l m : List Int} {a b : Bool} (h : AggEq P t (l.map fun a => .c (.int .i64 a)) (m.map fun a => .c (.int .i64 a)) a) (k : AggEq P t (l.map fun a => .c (.int .i64 a)) (m.map fun a => .c (.int .i64 a)) b) : a = b := by
  have h1 := (h ⟨default, fun _ => none, 0, fun _ => False⟩ _ _ (ints_rep l) (ints_rep m) (.tmp 0) (.tmp 0)).1
  have h2 := (k ⟨default, fun _ => none, 0, fun _ => False⟩ _ _ (ints_rep l) (ints_rep m) (.tmp 0) (.tmp 0)).1
  rw [h1] at h2
  simpa using h2
theorem agg_eql {P : Program} {D : Nat} {t : TypeId} {n : Nat} (h : EqI P D t n) (hD : D ≤ 10000) (hg : P.eqGuardType P.depth t = false) {l m : List Int} (h1 : l.length = n) (h2 : m.length = n) {M : Mem} {K : AV → Mem → Prop} {p : Prop} [Decidable p] (hp : l = m ↔ p) :
    aggBinK P t M (l.map fun a => .c (.int .i64 a)) (m.map fun a => .c (.int .i64 a)) K .eql = K (.c (.bool (decide p))) M := by
  have ha := AggEq.ints h hD hg h1 h2
  rw [show decide (l = m) = decide p from decide_eq_decide.2 hp] at ha
  exact propext ⟨fun ⟨b, h3, h4⟩ => h3.uniq ha ▸ h4, fun h => ⟨_, ha, h⟩⟩
theorem agg_neq {P : Program} {D : Nat} {t : TypeId} {n : Nat} (h : EqI P D t n) (hD : D ≤ 10000) (hg : P.eqGuardType P.depth t = false) {l m : List Int} (h1 : l.length = n) (h2 : m.length = n) {M : Mem} {K : AV → Mem → Prop} {p : Prop} [Decidable p] (hp : l = m ↔ p) :
    aggBinK P t M (l.map fun a => .c (.int .i64 a)) (m.map fun a => .c (.int .i64 a)) K .neq = K (.c (.bool (!decide p))) M := by
  have ha := AggEq.ints h hD hg h1 h2
  rw [show decide (l = m) = decide p from decide_eq_decide.2 hp] at ha
  exact propext ⟨fun ⟨b, h3, h4⟩ => h3.uniq ha ▸ h4, fun h => ⟨_, ha, h⟩⟩
end Go.Ab

set_option linter.unusedVariables false
set_option linter.constructorNameAsVariable false
set_option linter.unusedSimpArgs false
namespace Go.Ab
open Go Go.RowKit

/-- What changes the memory: 1; 6: but no old block (k0: the first new name). 7: reads old blocks alone. -/
def Hv (c : Nat) : Bool := c == 1 || c == 6
def OldB (k0 : Nat) (M M' : Mem) : Prop := ∀ id, id < k0 → M.get id = M'.get id
structure StepOk6 (P : Program) (tab : Tab) (ops : Array Oper) (N k0 : Nat) (c : Nat) (o : Oper) (sl : Slots) (M : Mem) (r : AV) (M' : Mem) : Prop where
  dst : ∀ d, o.dst = some d → d < N
  go : ∃ b, Gd ops N sl o.guard b ∧ (b = true → Hv c = true → opX P tab ⟨sl, M, N⟩ (fun a M2 => a = r ∧ M2 = M') o.op) ∧
    (b = true → c = 6 → OldB k0 M M') ∧
    (b = true → c = 2 → M' = M ∧ opX P tab ⟨sl, M, N⟩ (fun a M2 => a = r ∧ M2 = M) o.op) ∧
    (b = true → c = 7 → M' = M ∧ ∀ M0, OldB k0 M0 M → opX P tab ⟨sl, M0, N⟩ (fun a M2 => a = r ∧ M2 = M0) o.op) ∧
    (b = true → ¬ Hv c = true → c ≠ 2 → c ≠ 7 → M' = M ∧ ∀ M0, opZ P tab ⟨sl, M0, N⟩ (fun a M2 => a = r ∧ M2 = M0) o.op) ∧ (b = false → r = .t [] ∧ M' = M)
def TraceL6 (P : Program) (tab : Tab) (ops : Array Oper) (N k0 : Nat) (l : List Oper) (hv : List Nat) (sl : Slots) (M : Mem) (K : ASt → Prop) : Prop :=
  ∃ (slA : Nat → Slots) (mA : Nat → Mem) (rA : Nat → AV), slA 0 = sl ∧ mA 0 = M ∧
    (∀ i (h : i < l.length), StepOk6 P tab ops N k0 (hv.getD i 0) l[i] (slA i) (mA i) (rA i) (mA (i + 1)) ∧ slA (i + 1) = putO (slA i) l[i].dst (rA i)) ∧ K ⟨slA l.length, mA l.length, N⟩
theorem TraceL6.cons {P : Program} {tab : Tab} {ops : Array Oper} {N k0 : Nat} {o : Oper} {l : List Oper} {h : Nat} {hv : List Nat} {sl : Slots} {M M' : Mem} {r : AV} {K : ASt → Prop}
    (h1 : StepOk6 P tab ops N k0 h o sl M r M') (h2 : TraceL6 P tab ops N k0 l hv (putO sl o.dst r) M' K) : TraceL6 P tab ops N k0 (o :: l) (h :: hv) sl M K := by
  obtain ⟨slA, mA, rA, e1, e2, e3, e4⟩ := h2
  refine ⟨fun i => i.casesOn sl slA, fun i => i.casesOn M mA, fun i => i.casesOn r rA, rfl, rfl, fun i hi => ?_, e4⟩
  cases i with
  | zero =>
    simp only [List.getD_cons_zero, List.getElem_cons_zero]
    exact ⟨by rw [e2]; exact h1, e1⟩
  | succ i => exact e3 i (by simpa using hi)
section
variable {P : Program} {tab : Tab} {ops : Array Oper} {hv : List Nat} {anc : List (List Nat)}
end
section
variable {P : Program} {tab : Tab} {ops : Array Oper} {k0 : Nat} {K : ASt → Prop} {dst : Option Tmp} {sl : Slots} {m : Mem} {N : Nat} {s : ASt} {l : List Oper} {hs : List Nat} {h : Nat} {op : Op} {ty : TypeId} {pos : String} {af : Array Edge} {j : Nat} {w : Bool} {T : TypeId} {x' : Operand}
end
end Go.Ab

set_option linter.unusedVariables false
set_option linter.constructorNameAsVariable false
set_option linter.unusedSimpArgs false
namespace Go.Ab
open Go Go.RowKit

theorem Good.review {w0 : World} {E : Env} {M : Mem} (hg : Good w0 E M) {id : Nat} {blk blk' : Blk} (h : M.get id = some blk) (hT : blk'.T = blk.T) (hs : blk'.sz = blk.sz) (hn : blk'.xs.length = blk.xs.length)
    (hr : ∀ i (h1 : i < blk.xs.length) (h2 : i < blk'.xs.length), blk'.xs[i].cells.length = blk.xs[i].cells.length ∧ ∀ j (k1 : j < blk.xs[i].cells.length) (k2 : j < blk'.xs[i].cells.length) y, Rep E blk.xs[i].cells[j] y → Rep E blk'.xs[i].cells[j] y) :
    Good w0 E (M.put id blk') := by
  have hget : ∀ i, (M.put id blk').get i = if id = i then some blk' else M.get i := fun i => assoc_insert _ _ _ _
  refine ⟨hg.below, hg.k, hg.lt, fun i hi => ?_, fun i b hi => ?_, hg.hid, hg.old, hg.inj⟩
  · rw [hget] at hi
    split at hi
    · cases hi
    · exact hg.gone i hi
  · rw [hget] at hi
    split at hi
    · rename_i e
      subst e
      injection hi with hi
      subst hi
      obtain ⟨q, a1, a2, a3, a4, a5⟩ := hg.held id blk h
      refine ⟨q, a1, by rw [hs]; exact a2, by rw [hn]; exact a3, a4, fun hcp => ⟨(a5 hcp).1, (a5 hcp).2.1, ?_⟩⟩
      obtain ⟨arr, d1, d2, d3⟩ := (a5 hcp).2.2
      refine ⟨arr, by rw [hT]; exact d1, d2, fun i hi => ?_⟩
      have hi' : i < blk.xs.length := by rw [← hn]; exact hi
      obtain ⟨r1, r2⟩ := hr i hi' hi
      refine ⟨by rw [r1, hs]; exact (d3 i hi').1, fun j hj => ?_⟩
      obtain ⟨y, y1, y2, y3⟩ := (d3 i hi').2 j (by rw [← r1]; exact hj)
      exact ⟨y, by rw [hs]; exact y1, y2, r2 j (by rw [← r1]; exact hj) hj y y3⟩
    · exact hg.held i b hi
theorem rep_nil_own {E : Env} {v : Value} (hr : Rep E (.c (.slice none 0 0)) v) {k sz : Nat} (hk : k < E.k) (ha : E.ad k = some ⟨0, sz, 0, 0⟩) : Rep E (.s k 0 0) v := by
  have hv : v = .slice none 0 0 := by cases hr; rfl
  subst hv
  refine .s _ 0 0 none 0 hk fun q hq => ?_
  rw [ha] at hq
  simp only [Option.some.injEq] at hq
  subst hq
  exact ⟨Nat.le_refl _, fun _ => ⟨rfl, fun h => by simp at h⟩⟩
theorem adopt_cell {P : Program} {c : Code} {K : Exit → ASt → Prop} {sl : Slots} {m : Mem} {N : Nat} (id : Nat) (T0 : TypeId) (sz0 : Nat) (cs : List AV) (j : Nat) (T : TypeId) (sz : Nat)
    (hm : m.get id = some ⟨T0, sz0, [.g cs]⟩) (hj : cs[j]? = some (.c (.slice none 0 0))) (h : ACode P c K ⟨sl, (newMem m ⟨T, sz, []⟩).put id ⟨T0, sz0, [.g (cs.set j (.s m.k 0 0))]⟩, N⟩) : ACode P c K ⟨sl, m, N⟩ := fun ro w0 E D a hst => by
  obtain ⟨hg, hl⟩ := hst.g.adopt T sz
  have hk : m.k = E.k := hst.g.k
  have hid : id < m.k := by
    obtain ⟨q, h1, _⟩ := hst.g.held id _ hm
    have := hst.g.lt id q h1
    omega
  have hm2 : (newMem m ⟨T, sz, []⟩).get id = some ⟨T0, sz0, [.g cs]⟩ := by
    show assoc (insert m.l m.k _) id = _
    rw [assoc_insert, if_neg (by omega)]; exact hm
  have hg2 : Good w0 (E.adopt sz) ((newMem m ⟨T, sz, []⟩).put id ⟨T0, sz0, [.g (cs.set j (.s m.k 0 0))]⟩) := by
    refine hg.review hm2 rfl rfl rfl fun i h1 h2 => ?_
    have h0 : i = 0 := by simpa using h1
    subst h0
    refine ⟨by simp [AV.cells], fun k k1 k2 y hr => ?_⟩
    simp only [List.getElem_cons_zero, AV.cells] at hr k1 k2 ⊢
    by_cases e : j = k
    · subst e
      rw [List.getElem?_eq_getElem k1] at hj
      injection hj with hj
      rw [hj] at hr
      rw [List.getElem_set_self]
      exact rep_nil_own (sz := sz) hr (by show m.k < E.k + 1; omega) (by simp only [Env.adopt, hk, if_true])
    · rw [List.getElem_set_ne e]; exact hr
  have hE : (E.adopt sz).w = E.w := rfl
  rw [← hE]
  refine Code.wpIn_mono (fun _ _ _ ⟨E', s', h1, h2, h3, h4⟩ => ⟨E', s', h1, h2, hl.trans h3, h4⟩) (h ro w0 (E.adopt sz) D a ⟨hg2, fun u => (hst.r u).later hl, hst.n, hst.d⟩)
end Go.Ab

set_option linter.unusedVariables false
set_option linter.constructorNameAsVariable false
set_option linter.unusedSimpArgs false
namespace Go.Ab
open Go Go.RowKit

theorem icall_see {P : Program} {f : FuncId} {args : List AV} {M : Mem} {K : AV → Mem → Prop} (id : Nat) (T0 : TypeId) (sz0 sz : Nat) (hm : M.get id = some ⟨T0, sz0, [.c (.slice none 0 0)]⟩)
    (h : ICall P f args (M.put id ⟨T0, sz0, [.l sz []]⟩) K) : ICall P f args M K := by
  refine ⟨h.1, fun w0 E vs hg hs hr => h.2 w0 E vs (hg.review hm rfl rfl rfl fun i h1 h2 => ?_) hs hr⟩
  have h0 : i = 0 := by simpa using h1
  subst h0
  refine ⟨rfl, fun j k1 k2 y hy => ?_⟩
  have hj : j = 0 := by simpa [AV.cells] using k1
  subst hj
  have hv : y = .slice none 0 0 := by
    have hy' : Rep E (.c (.slice none 0 0)) y := hy
    cases hy'; rfl
  subst hv
  exact .l0 _ _ _
section
variable {P : Program} {tab : Tab} {sl : Slots} {m : Mem} {N : Nat} {KX : AV → Mem → Prop} {T : TypeId}
theorem zx_build {ps : Array (Nat × Operand)} : opZ P tab ⟨sl, m, N⟩ KX (.build T ps) = tiK tab T fun ti => bldK tab ti m (ps.toList.map fun p => (p.1, ev sl p.2)) KX ti.k := rfl
end
end Go.Ab

set_option linter.unusedVariables false
set_option linter.constructorNameAsVariable false
set_option linter.unusedSimpArgs false
namespace Go.Ab
open Go Go.RowKit

def valB (l : List UInt8) : Array Value := (l.map fun c => Value.int .u8 c.toNat).toArray
theorem valB_get (l : List UInt8) (i : Nat) : (valB l)[i]? = l[i]?.map fun c => Value.int .u8 c.toNat := by simp [valB]
theorem run_items {P : Program} {e : TypeId} (he : P.underlying e = some (.int .u8)) (d : Nat) (w : World) (l m : List UInt8) : ∀ is : List Nat, (∀ i ∈ is, i < l.length ∧ i < m.length) →
    (Op.eqItems (d + 1) e 1 (valB l) (valB m) is).run P w = .ok (decide (∀ i ∈ is, l.getD i 0 = m.getD i 0)) w
  | [], _ => by simp [Op.eqItems]
  | i :: is, h => by
    have hi := h i (by simp)
    have hp : ∀ k : List UInt8, i < k.length → (Go.part e (valB k) (i * 1)).run P w = .ok (.int .u8 (k.getD i 0).toNat) w := fun k hk => by
      have ha : (isAgg e).run P w = .ok false w := by simp [isAgg, run_underlying he]
      have hg : (valB k)[i]? = some (.int .u8 (k.getD i 0).toNat) := by rw [valB_get, List.getD_eq_getElem?_getD, List.getElem?_eq_getElem hk]; rfl
      simp [Go.part, ha, Result.andThen, hg]
    simp only [Op.eqItems, Sem.run_bind, hp l hi.1, hp m hi.2, Result.andThen_ok, run_equalIn_int w d e .u8 .u8 _ _ he]
    have ih := run_items he d w l m is fun j hj => h j (by simp [hj])
    by_cases hq : l.getD i 0 = m.getD i 0
    · have hb : (((l.getD i 0).toNat : Int) == ((m.getD i 0).toNat : Int)) = true := by rw [hq]; exact beq_self_eq_true _
      rw [show decide (∀ j ∈ i :: is, l.getD j 0 = m.getD j 0) = decide (∀ j ∈ is, l.getD j 0 = m.getD j 0) from decide_eq_decide.2 ⟨fun h j hj => h j (by simp [hj]), fun h j hj => by
        rcases List.mem_cons.1 hj with rfl | hj
        · exact hq
        · exact h j hj⟩]
      simp only [hb, Bool.not_true, Bool.false_eq_true, if_false]
      exact ih
    · have hne : ((l.getD i 0).toNat : Int) ≠ (m.getD i 0).toNat := fun e => hq (UInt8.toNat_inj.1 (by omega))
      have hb : (((l.getD i 0).toNat : Int) == ((m.getD i 0).toNat : Int)) = false := beq_eq_false_iff_ne.2 hne
      rw [show decide (∀ j ∈ i :: is, l.getD j 0 = m.getD j 0) = false from decide_eq_false fun h => hq (h i (by simp))]
      simp only [hb, Bool.not_false, if_true, Sem.run_pure]
theorem rep_bytesA {E : Env} {l : List UInt8} {ys : Array Value} (h : Rep E (.g (l.map encB)) (.agg ys)) : ys = valB l := by
  cases h with | g _ _ h hr =>
  refine Array.ext (by simpa [valB] using h) fun i h1 h2 => ?_
  have := hr i (by simpa [valB] using h2) h1
  simp only [List.getElem_map] at this
  have e : (valB l)[i] = .int .u8 (l[i]'(by simpa [valB] using h2)).toNat := by simp [valB]
  rw [e]
  generalize ys[i] = v at this
  cases this; rfl
theorem AggEq.bytes {P : Program} {t e : TypeId} {n : Nat} {i : TypeInfo} (hu : P.underlying t = some (.array n e)) (hi : P.info? e = some i) (hc : P.cellsOf e = 1) (he : P.underlying e = some (.int .u8)) (hg : P.eqGuardType P.depth t = false)
    {l m : List UInt8} (h1 : l.length = n) (h2 : m.length = n) : AggEq P t (l.map encB) (m.map encB) (decide (l = m)) := fun E ys zs hy hz x y => by
  have e1 := rep_bytesA hy
  have e2 := rep_bytesA hz
  subst e1; subst e2
  have hr : (Op.equalIn 10000 t (.agg (valB l)) (.agg (valB m))).run P E.w = .ok (decide (l = m)) E.w := by
    rw [run_equalIn_array E.w 9999 _ _ hu hi, hc, run_items he 9998 E.w l m _ fun j hj => by have := List.mem_range.1 hj; omega]
    congr 1
    refine decide_eq_decide.2 ⟨fun h => List.ext_getElem (by omega) fun j k1 k2 => ?_, fun h => by rw [h]; exact fun _ _ => rfl⟩
    have := h j (List.mem_range.2 (by omega))
    rwa [List.getD_eq_getElem?_getD, List.getD_eq_getElem?_getD, List.getElem?_eq_getElem k1, List.getElem?_eq_getElem k2] at this
  refine ⟨?_, ?_⟩
  · simp only [Sem.run_bind, run_eqGuard_agg E.w .eql t x y _ _ hg, Result.andThen_ok, run_eql_struct, hr]
  · simp only [Sem.run_bind, run_eqGuard_agg E.w .neq t x y _ _ hg, Result.andThen_ok, run_neq_struct, hr]
end Go.Ab
