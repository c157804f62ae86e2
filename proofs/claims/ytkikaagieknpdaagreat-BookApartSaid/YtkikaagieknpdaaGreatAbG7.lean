/- A variable that has nothing yet, taken for a row of the call's own without .. -/
import Derived.Test.YtkikaagieknpdaaGreatAbG6
import Derived.Laws.StructEq
import Derived.Test.YtkikaagieknpdaaGreatAbG5
import Derived.ChangeKeysEq
set_option linter.unusedVariables false
set_option linter.constructorNameAsVariable false
set_option linter.unusedSimpArgs false
namespace Go.Ab
open Go Go.RowKit
variable {pf : Value → Mem → Prop}
def Env.adopt (E : Env) (sz : Nat) : Env := ⟨E.w, fun i => if i = E.k then some ⟨0, sz, 0, 0⟩ else E.ad i, E.k + 1, E.hid⟩
theorem Good.adopt {w0 : World} {E : Env} {M : Mem} (hg : Good w0 E M) (T : TypeId) (sz : Nat) : Good w0 (E.adopt sz) (newMem M ⟨T, sz, []⟩) ∧ Later E (E.adopt sz) := by
 have hne : ∀ id q, E.ad id = some q → id ≠ E.k := fun id q h e => by have := hg.lt id q h; omega
 have hz : ∀ b, E.Z b → (E.adopt sz).Z b := fun b hb => ⟨hb.1, hb.2.1, fun id q hq hcp => by
  simp only [Env.adopt] at hq
  split at hq
  · simp only [Option.some.injEq] at hq; subst hq; simp at hcp
  · exact hb.2.2 id q hq hcp⟩
 have hl : Later E (E.adopt sz) := ⟨fun b hb => ⟨hz b hb, rfl⟩, by simp [Env.adopt], fun id hid q' hq => by
  simp only [Env.adopt] at hq
  rw [if_neg (by omega)] at hq
  exact ⟨q', hq, Nat.le_refl _, fun _ => rfl, fun _ _ => ⟨rfl, rfl⟩⟩, rfl, fun _ _ => rfl⟩
 have hget : ∀ id, (newMem M ⟨T, sz, []⟩).get id = if id = E.k then some ⟨T, sz, []⟩ else M.get id := fun id => by
  show assoc (insert M.l M.k _) id = _
  rw [assoc_insert, hg.k]
  by_cases e : id = E.k
  · subst e; simp
  · simp [e, Ne.symm e, Mem.get]
 refine ⟨⟨hg.below, by show M.k + 1 = E.k + 1; rw [hg.k], fun id q hq => ?_, fun id hM => ?_, fun id blk hM => ?_, fun id q hq hcp => ?_, hg.old, fun i i' q q' hi h1 h2 c1 c2 => ?_⟩, hl⟩
 · simp only [Env.adopt] at hq ⊢
   split at hq
   · omega
   · have := hg.lt id q hq; omega
 · rw [hget] at hM
   simp only [Env.adopt]
   split at hM
   · cases hM
   · rename_i e; rw [if_neg e]; exact hg.gone id hM
 · rw [hget] at hM
   simp only [Env.adopt]
   split at hM
   · rename_i e
     simp only [Option.some.injEq] at hM
     subst hM
     exact ⟨_, by rw [if_pos e], rfl, rfl, Nat.le_refl _, fun h => by simp at h⟩
   · rename_i e
     obtain ⟨q, a1, a2, a3, a4, a5⟩ := hg.held id blk hM
     refine ⟨q, by rw [if_neg e]; exact a1, a2, a3, a4, fun hcp => ⟨(a5 hcp).1, ?_⟩⟩
     obtain ⟨d0, arr, d1, d2, d3⟩ := (a5 hcp).2
     refine ⟨d0, arr, d1, d2, fun i hi => ⟨(d3 i hi).1, fun j hj => ?_⟩⟩
     obtain ⟨y, y1, y2, y3⟩ := (d3 i hi).2 j hj
     exact ⟨y, y1, y2, y3.later hl⟩
 · simp only [Env.adopt] at hq
   split at hq
   · simp only [Option.some.injEq] at hq; subst hq; simp at hcp
   · exact hg.hid id q hq hcp
 · simp only [Env.adopt] at h1 h2
   split at h1
   · simp only [Option.some.injEq] at h1; subst h1; simp at c1
   · split at h2
     · simp only [Option.some.injEq] at h2; subst h2; simp at c2
     · exact hg.inj i i' q q' hi h1 h2 c1 c2
theorem adopt_rule {P : Program} {c : Code} {K : Exit → ASt → Prop} {sl : Slots} {m : Mem} {N : Nat} (t : Nat) (T : TypeId) (sz : Nat) (ht : Slots.get sl t = .c (.slice none 0 0)) (h : ACodeG pf P c K ⟨insert sl t (.s m.k 0 0), newMem m ⟨T, sz, []⟩, N⟩) : ACodeG pf P c K ⟨sl, m, N⟩ := fun hK ro w0 E D a hst => by
 obtain ⟨hg, hl⟩ := hst.g.adopt T sz
 have hE : (E.adopt sz).w = E.w := rfl
 rw [← hE]
 refine Code.wpIn_mono (fun _ _ _ ⟨E', s', h1, h2, h3, h4⟩ => ⟨E', s', h1, h2, hl.trans h3, h4⟩) (h (fun x s hx => hK x s hx) ro w0 (E.adopt sz) D a ⟨hg, fun u => ?_, hst.n, hst.d⟩)
 unfold Slots.get
 rw [assoc_insert]
 by_cases e : t = u
 · subst e
   have hr := hst.r t
   rw [show Slots.get sl t = _ from ht] at hr
   generalize a.tmps.getD t undef = v at hr ⊢
   have hv : v = .slice none 0 0 := by cases hr; rfl
   simp only [if_true, Option.getD_some]
   rw [hv]
   have hk : m.k = E.k := hst.g.k
   refine .s _ 0 0 none 0 (by show m.k < E.k + 1; omega) fun q hq => ?_
   simp only [Env.adopt, hk, if_true, Option.some.injEq] at hq
   subst hq
   exact ⟨Nat.le_refl _, fun _ => ⟨rfl, fun h => by simp at h⟩⟩
 · simp only [if_neg e]
   exact (hst.r u).later hl
end Go.Ab
namespace Go.Ab
open Go Go.RowKit
def valI (l : List Int) : Array Value := (l.map fun a => Value.int .i64 a).toArray
theorem valI_get (l : List Int) (i : Nat) : (valI l)[i]? = l[i]?.map fun a => Value.int .i64 a := by simp [valI]
theorem valI_extract (l : List Int) (a b : Nat) : (valI l).extract a b = valI ((l.drop a).take (b - a)) := by
 simp [valI, List.extract]
def EqI (P : Program) (D : Nat) (t : TypeId) (n : Nat) : Prop :=
 ∀ d w (as bs : List Int), as.length = n → bs.length = n → (Op.equalIn (d + D) t (.agg (valI as)) (.agg (valI bs))).run P w = .ok (decide (as = bs)) w
theorem EqI.mono {P : Program} {D : Nat} {t : TypeId} {n k : Nat} (h : EqI P D t n) : EqI P (k + D) t n := fun d w as bs h1 h2 => by
 have := h (d + k) w as bs h1 h2
 rwa [Nat.add_assoc] at this
inductive FsI (P : Program) (D : Nat) : Nat → Nat → List Field → Prop
 | nil {n : Nat} : FsI P D n n []
 | int {off n : Nat} {f : Field} {fs : List Field} (h1 : f.name ≠ "_") (h2 : f.offset = off) (h3 : P.underlying f.type = some (.int .i64)) (h : FsI P D (off + 1) n fs) : FsI P D off n (f :: fs)
 | st {off n m : Nat} {f : Field} {fs : List Field} {ti : TI} (h1 : f.name ≠ "_") (h2 : f.offset = off) (h3 : TOk P f.type ti) (h4 : ti.sz = m) (h5 : ti.k.agg = true) (h6 : EqI P D f.type m) (h : FsI P D (off + m) n fs) : FsI P D off n (f :: fs)
theorem FsI.le {P : Program} {D off n : Nat} {fs : List Field} (h : FsI P D off n fs) : off ≤ n := by
 induction h with
 | nil => exact Nat.le_refl _
 | int h1 h2 h3 h ih => omega
 | st h1 h2 h3 h4 h5 h6 h ih => omega
theorem drop_split {as : List Int} {off m : Nat} : as.drop off = (as.drop off).take m ++ as.drop (off + m) := by
 rw [← List.drop_drop, List.take_append_drop]
theorem drop_one {as : List Int} {off : Nat} (h : off < as.length) : as.drop off = as[off] :: as.drop (off + 1) := List.drop_eq_getElem_cons h
theorem FsI.run {P : Program} {D : Nat} {off n : Nat} {fs : List Field} (h : FsI P (D + 1) off n fs) : ∀ d w (as bs : List Int), as.length = n → bs.length = n →
 (Op.eqFields (d + (D + 1)) (valI as) (valI bs) fs).run P w = .ok (decide (as.drop off = bs.drop off)) w := by
 induction h with
 | nil => intro d w as bs h1 h2; rw [List.drop_eq_nil_of_le (by omega), List.drop_eq_nil_of_le (by omega)]; simp [Op.eqFields]
 | int k1 k2 k3 k ih =>
  rename_i off n f fs
  intro d w as bs h1 h2
  have hle := k.le
  have hp : ∀ l : List Int, l.length = n → (Go.part f.type (valI l) off).run P w = .ok (.int .i64 (l.getD off 0)) w := fun l hl => by
   have ha : (isAgg f.type).run P w = .ok false w := by simp [isAgg, run_underlying k3]
   have hg : (valI l)[off]? = some (.int .i64 (l.getD off 0)) := by rw [valI_get, List.getD_eq_getElem?_getD, List.getElem?_eq_getElem (by omega)]; rfl
   simp [Go.part, ha, Result.andThen, hg]
  simp only [Op.eqFields, k1, ne_eq, not_false_eq_true, if_true, Sem.run_bind, k2, hp as h1, hp bs h2, Result.andThen_ok]
  rw [show d + (D + 1) = (d + D) + 1 by omega, run_equalIn_int w (d + D) f.type .i64 .i64 _ _ k3]
  simp only [Result.andThen_ok]
  have ea : as.drop off = as.getD off 0 :: as.drop (off + 1) := by rw [drop_one (by omega), List.getD_eq_getElem?_getD, List.getElem?_eq_getElem (by omega)]; rfl
  have eb : bs.drop off = bs.getD off 0 :: bs.drop (off + 1) := by rw [drop_one (by omega), List.getD_eq_getElem?_getD, List.getElem?_eq_getElem (by omega)]; rfl
  rw [ea, eb]
  generalize as.getD off 0 = x
  generalize bs.getD off 0 = y
  by_cases e : x = y
  · have := ih d w as bs h1 h2
    rw [show d + (D + 1) = (d + D) + 1 by omega] at this
    simp [e, this]
  · simp [e]
 | st k1 k2 k3 k4 k5 k6 k ih =>
  rename_i off n m f fs ti
  intro d w as bs h1 h2
  have hle := k.le
  have hp : ∀ l : List Int, l.length = n → (Go.part f.type (valI l) off).run P w = .ok (.agg (valI ((l.drop off).take m))) w := fun l hl => by
   have hko : ti.k.known = true := by cases hk : ti.k <;> rw [hk] at k5 <;> first | rfl | cases k5
   simp only [Go.part, Sem.run_bind, k3.run_agg hko, k5, Result.andThen_ok, if_true, k3.run_size, Sem.run_pure, valI_extract, k4]
   rw [Nat.add_sub_cancel_left]
  simp only [Op.eqFields, k1, ne_eq, not_false_eq_true, if_true, Sem.run_bind, k2, hp as h1, hp bs h2, Result.andThen_ok]
  rw [k6 d w _ _ (by rw [List.length_take, List.length_drop]; omega) (by rw [List.length_take, List.length_drop]; omega)]
  simp only [Result.andThen_ok]
  have key : as.drop off = bs.drop off ↔ ((as.drop off).take m = (bs.drop off).take m ∧ as.drop (off + m) = bs.drop (off + m)) :=
   ⟨fun h => ⟨by rw [h], by rw [← List.drop_drop, ← List.drop_drop, h]⟩, fun h => by
    have e1 := drop_split (as := as) (off := off) (m := m)
    have e2 := drop_split (as := bs) (off := off) (m := m)
    rw [h.1, h.2] at e1
    exact e1.trans e2.symm⟩
  rw [show decide (as.drop off = bs.drop off) = decide ((as.drop off).take m = (bs.drop off).take m ∧ as.drop (off + m) = bs.drop (off + m)) from decide_eq_decide.2 key]
  have hi := ih d w as bs h1 h2
  by_cases e : (as.drop off).take m = (bs.drop off).take m
  · simp [e, hi]
  · simp [e]
theorem EqI.of {P : Program} {D : Nat} {t : TypeId} {n : Nat} {fs : Array Field} (ht : P.underlying t = some (.struct fs)) (hp : P.stoodInHeld t = false) (h : FsI P (D + 1) 0 n fs.toList) : EqI P (D + 2) t n := fun d w as bs h1 h2 => by
 have hf : P.fieldsOf t = fs := by simp [Program.fieldsOf, ht]
 have := run_equalIn_struct (P := P) w (d + (D + 1)) t (valI as) (valI bs) (by rw [hf]; exact ht) hp
 rw [show d + (D + 2) = d + (D + 1) + 1 by omega, this, hf]
 have := h.run d w as bs h1 h2
 simpa using this
theorem rep_ints {E : Env} : ∀ {l : List Int} {ys : Array Value}, Rep E (.g (l.map fun a => .c (.int .i64 a))) (.agg ys) → ys = valI l := fun {l ys} h => by
 cases h with | g _ _ h hr =>
 refine Array.ext (by simpa [valI] using h) fun i h1 h2 => ?_
 have := hr i (by simpa [valI] using h2) h1
 simp only [List.getElem_map] at this
 have e : (valI l)[i] = .int .i64 (l[i]'(by simpa [valI] using h2)) := by simp [valI]
 rw [e]
 generalize ys[i] = v at this
 cases this; rfl
theorem ints_rep {E : Env} (l : List Int) : Rep E (.g (l.map fun a => .c (.int .i64 a))) (.agg (valI l)) := .g _ _ (by simp [valI]) fun i h1 h2 => by
 simp only [valI, List.getElem_toArray, List.getElem_map]
 exact .c _ rfl
theorem AggEq.ints {P : Program} {D : Nat} {t : TypeId} {n : Nat} (h : EqI P D t n) (hD : D ≤ 10000) (hg : P.eqGuardType P.depth t = false) {l m : List Int} (h1 : l.length = n) (h2 : m.length = n) :
 AggEq P t (l.map fun a => .c (.int .i64 a)) (m.map fun a => .c (.int .i64 a)) (decide (l = m)) := fun E ys zs hy hz x y => by
 have e1 := rep_ints hy
 have e2 := rep_ints hz
 subst e1; subst e2
 have hr := h (10000 - D) E.w l m h1 h2
 rw [Nat.sub_add_cancel hD] at hr
 refine ⟨?_, ?_⟩
 · simp only [Sem.run_bind, run_eqGuard_agg E.w .eql t x y _ _ hg, Result.andThen_ok, run_eql_struct, hr]
 · simp only [Sem.run_bind, run_eqGuard_agg E.w .neq t x y _ _ hg, Result.andThen_ok, run_neq_struct, hr]
theorem AggEq.uniq {P : Program} {t : TypeId} {l m : List Int} {a b : Bool} (h : AggEq P t (l.map fun a => .c (.int .i64 a)) (m.map fun a => .c (.int .i64 a)) a) (k : AggEq P t (l.map fun a => .c (.int .i64 a)) (m.map fun a => .c (.int .i64 a)) b) : a = b := by
 have h1 := (h ⟨default, fun _ => none, 0, fun _ => False⟩ _ _ (ints_rep l) (ints_rep m) (.tmp 0) (.tmp 0)).1
 have h2 := (k ⟨default, fun _ => none, 0, fun _ => False⟩ _ _ (ints_rep l) (ints_rep m) (.tmp 0) (.tmp 0)).1
 rw [h1] at h2
 simpa using h2
theorem agg_eql {P : Program} {D : Nat} {t : TypeId} {n : Nat} (h : EqI P D t n) (hD : D ≤ 10000) (hg : P.eqGuardType P.depth t = false) {l m : List Int} (h1 : l.length = n) (h2 : m.length = n) {M : Mem} {K : AV → Mem → Prop} {p : Prop} [Decidable p] (hp : l = m ↔ p) :
 aggBinK P t M (l.map fun a => .c (.int .i64 a)) (m.map fun a => .c (.int .i64 a)) K .eql = K (.c (.bool (decide p))) M := by
 have ha := AggEq.ints h hD hg h1 h2
 rw [show decide (l = m) = decide p from decide_eq_decide.2 hp] at ha
 exact propext ⟨fun ⟨b, h3, h4⟩ => h3.uniq ha ▸ h4, fun h => ⟨_, ha, h⟩⟩
theorem agg_neq {P : Program} {D : Nat} {t : TypeId} {n : Nat} (h : EqI P D t n) (hD : D ≤ 10000) (hg : P.eqGuardType P.depth t = false) {l m : List Int} (h1 : l.length = n) (h2 : m.length = n) {M : Mem} {K : AV → Mem → Prop} {p : Prop} [Decidable p] (hp : l = m ↔ p) :
 aggBinK P t M (l.map fun a => .c (.int .i64 a)) (m.map fun a => .c (.int .i64 a)) K .neq = K (.c (.bool (!decide p))) M := by
 have ha := AggEq.ints h hD hg h1 h2
 rw [show decide (l = m) = decide p from decide_eq_decide.2 hp] at ha
 exact propext ⟨fun ⟨b, h3, h4⟩ => h3.uniq ha ▸ h4, fun h => ⟨_, ha, h⟩⟩
end Go.Ab
namespace Go.Ab
open Go Go.RowKit
variable {pf : Value → Mem → Prop}
def Hv (c : Nat) : Bool := c == 1 || c == 6
def OldB (k0 : Nat) (M M' : Mem) : Prop := ∀ id, id < k0 → (1000 ≤ k0 → id ≠ 0) → M.get id = M'.get id
def mclash6 (c d : Nat) : Bool := (Hv c && (Hv d || d == 2 || (d == 7 && c == 1))) || (Hv d && (c == 2 || (c == 7 && d == 1)))
theorem mc_hh {c d : Nat} (h1 : Hv c = true) (h2 : Hv d = true) : mclash6 c d = true := by simp [mclash6, h1, h2]
theorem mc_h2 {c : Nat} (h1 : Hv c = true) : mclash6 c 2 = true := by simp [mclash6, h1]
theorem mc_2h {d : Nat} (h1 : Hv d = true) : mclash6 2 d = true := by simp [mclash6, h1]
theorem mc_71 : mclash6 7 1 = true := rfl
theorem mc_17 : mclash6 1 7 = true := rfl
structure StepOk6 (pf : Value → Mem → Prop) (P : Program) (tab : Tab) (ops : Array Oper) (N k0 : Nat) (c : Nat) (o : Oper) (sl : Slots) (M : Mem) (r : AV) (M' : Mem) : Prop where
 dst : ∀ d, o.dst = some d → d < N
 go : ∃ b, Gd ops N sl o.guard b ∧ (b = true → Hv c = true → opX pf P tab ⟨sl, M, N⟩ (fun a M2 => a = r ∧ M2 = M') o.op) ∧
  (b = true → c = 6 → OldB k0 M M') ∧
  (b = true → c = 2 → M' = M ∧ opX pf P tab ⟨sl, M, N⟩ (fun a M2 => a = r ∧ M2 = M) o.op) ∧
  (b = true → c = 7 → M' = M ∧ ∀ M0, OldB k0 M0 M → opX pf P tab ⟨sl, M0, N⟩ (fun a M2 => a = r ∧ M2 = M0) o.op) ∧
  (b = true → ¬ Hv c = true → c ≠ 2 → c ≠ 7 → M' = M ∧ ∀ M0, opZ pf P tab ⟨sl, M0, N⟩ (fun a M2 => a = r ∧ M2 = M0) o.op) ∧ (b = false → r = .t [] ∧ M' = M)
def TraceL6 (pf : Value → Mem → Prop) (P : Program) (tab : Tab) (ops : Array Oper) (N k0 : Nat) (l : List Oper) (hv : List Nat) (sl : Slots) (M : Mem) (K : ASt → Prop) : Prop :=
 ∃ (slA : Nat → Slots) (mA : Nat → Mem) (rA : Nat → AV), slA 0 = sl ∧ mA 0 = M ∧
  (∀ i (h : i < l.length), StepOk6 pf P tab ops N k0 (hv.getD i 0) l[i] (slA i) (mA i) (rA i) (mA (i + 1)) ∧ slA (i + 1) = putO (slA i) l[i].dst (rA i)) ∧ K ⟨slA l.length, mA l.length, N⟩
theorem TraceL6.cons {P : Program} {tab : Tab} {ops : Array Oper} {N k0 : Nat} {o : Oper} {l : List Oper} {h : Nat} {hv : List Nat} {sl : Slots} {M M' : Mem} {r : AV} {K : ASt → Prop}
 (h1 : StepOk6 pf P tab ops N k0 h o sl M r M') (h2 : TraceL6 pf P tab ops N k0 l hv (putO sl o.dst r) M' K) : TraceL6 pf P tab ops N k0 (o :: l) (h :: hv) sl M K := by
 obtain ⟨slA, mA, rA, e1, e2, e3, e4⟩ := h2
 refine ⟨fun i => i.casesOn sl slA, fun i => i.casesOn M mA, fun i => i.casesOn r rA, rfl, rfl, fun i hi => ?_, e4⟩
 cases i with
 | zero =>
  simp only [List.getD_cons_zero, List.getElem_cons_zero]
  exact ⟨by rw [e2]; exact h1, e1⟩
 | succ i => exact e3 i (by simpa using hi)
def confOk6 (ops : Array Oper) (hv : List Nat) (anc : List (List Nat)) : Bool :=
 (List.range ops.size).all fun j => (List.range j).all fun i => (anc.getD j []).contains i || match ops[i]?, ops[j]? with
  | some x, some y => x.apart ops y && !(mclash6 (hv.getD i 0) (hv.getD j 0))
  | _, _ => false
def drawOk6 (ops : Array Oper) (hv : List Nat) (anc : List (List Nat)) : Bool := ancOk ops anc && confOk6 ops hv anc
section
variable {P : Program} {tab : Tab} {ops : Array Oper} {hv : List Nat} {anc : List (List Nat)}
theorem conf_spec6 (h : confOk6 ops hv anc = true) {i j : Nat} {x y : Oper} (hij : i < j) (hx : ops[i]? = some x) (hy : ops[j]? = some y) : i ∈ anc.getD j [] ∨ (x.apart ops y = true ∧ mclash6 (hv.getD i 0) (hv.getD j 0) = false) := by
 have hj : j < ops.size := (Array.getElem?_eq_some_iff.1 hy).1
 have := List.all_eq_true.1 (List.all_eq_true.1 h j (List.mem_range.2 hj)) i (List.mem_range.2 hij)
 simp only [hx, hy, Bool.or_eq_true, Bool.and_eq_true, List.contains_iff_mem, Bool.not_eq_true'] at this
 rcases this with h | ⟨h1, h2⟩
 · exact .inl h
 · exact .inr ⟨h1, h2⟩
theorem draw_sound6 {k0 : Nat} (hm : P.follows .mixedOrders = true) (hT : TabOk P tab) (hd : drawOk6 ops hv anc = true) {id : Nat} {KE : Exit → ASt → Prop} {s : ASt}
 (h : TraceL6 pf P tab ops s.N k0 ops.toList hv s.sl s.m (KE .normal)) : ACodeG pf P (.region id ops true) KE s := by
 intro hAcc ro w0 E0 D a0 hs
 obtain ⟨slA, mA, rA, e1, e2, e3, e4⟩ := h
 simp only [drawOk6, Bool.and_eq_true] at hd
 obtain ⟨ha, hcf⟩ := hd
 have hlen : ops.toList.length = ops.size := by simp
 have hstep : ∀ i o, ops[i]? = some o → StepOk6 pf P tab ops s.N k0 (hv.getD i 0) o (slA i) (mA i) (rA i) (mA (i + 1)) ∧ slA (i + 1) = putO (slA i) o.dst (rA i) := fun i o ho => by
  obtain ⟨hi, rfl⟩ := Array.getElem?_eq_some_iff.1 ho
  have := e3 i (by rw [hlen]; exact hi)
  simpa using this
 -- what is written, by temporaries; what the memory is
 let dstA : Nat → Option Tmp := fun i => (ops[i]?).bind (·.dst)
 let wl : Nat → List (Bool × AV) := fun t => (List.range ops.size).map fun i => (dstA i == some t, rA i)
 let ml : List (Bool × Mem) := (List.range ops.size).map fun i => (Hv (hv.getD i 0), mA (i + 1))
 let val : (Nat → Bool) → Nat → AV := fun S t => lastW (Slots.get s.sl t) (wl t) 0 S
 let mem : (Nat → Bool) → Mem := fun S => lastW s.m ml 0 S
 have wlen : ∀ t, (wl t).length = ops.size := fun t => by simp [wl]
 have mlen : ml.length = ops.size := by simp [ml]
 have wget : ∀ t j (hj : j < (wl t).length), (wl t)[j] = (dstA j == some t, rA j) := fun t j hj => by simp [wl]
 have mget : ∀ j (hj : j < ml.length), ml[j] = (Hv (hv.getD j 0), mA (j + 1)) := fun j hj => by simp [ml]
 have vcong : ∀ S S' t, (∀ j, j < ops.size → dstA j = some t → S j = S' j) → val S t = val S' t := fun S S' t hh =>
  lastW_congr _ _ 0 S S' fun j hj hf => by
   rw [wget] at hf
   rw [Nat.zero_add]
   exact hh j (by rw [← wlen t]; exact hj) (by simpa using hf)
 have mcong : ∀ S S', (∀ j, j < ops.size → Hv (hv.getD j 0) = true → S j = S' j) → mem S = mem S' := fun S S' hh =>
  lastW_congr _ _ 0 S S' fun j hj hf => by
   rw [mget] at hf
   rw [Nat.zero_add]
   exact hh j (by rw [← mlen]; exact hj) (by simpa using hf)
 have vis : ∀ S t i, i < ops.size → dstA i = some t → S i = true → (∀ j, j < ops.size → i < j → dstA j = some t → S j = false) → val S t = rA i := fun S t i hi hdi hS hh => by
  have := lastW_is (wl t) (Slots.get s.sl t) 0 S i (by rw [wlen]; exact hi) (by rw [wget]; simpa using hdi) (by rw [Nat.zero_add]; exact hS) fun j hj hij hf => by
   rw [wget] at hf
   rw [Nat.zero_add]
   exact hh j (by rw [← wlen t]; exact hj) hij (by simpa using hf)
  rw [wget] at this
  exact this
 have mis : ∀ S i, i < ops.size → Hv (hv.getD i 0) = true → S i = true → (∀ j, j < ops.size → i < j → Hv (hv.getD j 0) = true → S j = false) → mem S = mA (i + 1) := fun S i hi hdi hS hh => by
  have := lastW_is ml s.m 0 S i (by rw [mlen]; exact hi) (by rw [mget]; simpa using hdi) (by rw [Nat.zero_add]; exact hS) fun j hj hij hf => by
   rw [mget] at hf
   rw [Nat.zero_add]
   exact hh j (by rw [← mlen]; exact hj) hij (by simpa using hf)
  rw [mget] at this
  exact this
 have canon : ∀ i, i ≤ ops.size → (∀ t, Slots.get (slA i) t = val (fun j => decide (j < i)) t) ∧ mA i = mem (fun j => decide (j < i)) := by
  intro i
  induction i with
  | zero =>
   intro _
   refine ⟨fun t => ?_, ?_⟩
   · rw [e1]; exact (lastW_none _ _ 0 _ fun j _ _ => by simp).symm
   · rw [e2]; exact (lastW_none _ _ 0 _ fun j _ _ => by simp).symm
  | succ i ih =>
   intro hi
   obtain ⟨ih1, ih2⟩ := ih (by omega)
   have ho : ops[i]? = some ops[i] := Array.getElem?_eq_getElem (by omega)
   have hda : dstA i = ops[i].dst := by simp [dstA, ho]
   obtain ⟨k1, k2⟩ := hstep i _ ho
   refine ⟨fun t => ?_, ?_⟩
   · rw [k2, get_putO]
     by_cases hdt : ops[i].dst = some t
     · rw [if_pos hdt]
       exact (vis _ t i (by omega) (by rw [hda]; exact hdt) (by simp) fun j hj hij _ => by simp; omega).symm
     · rw [if_neg hdt, ih1]
       refine vcong _ _ t fun j hj hdj => ?_
       have : j ≠ i := fun e => hdt (by rw [← hda, ← e]; exact hdj)
       exact decide_eq_decide.2 (by omega)
   · by_cases hvi : Hv (hv.getD i 0) = true
     · exact (mis _ i (by omega) hvi (by simp) fun j hj hij _ => by simp; omega).symm
     · have hm1 : mA (i + 1) = mA i := by
        obtain ⟨b, _, _, _, g2, g7, g3, g4⟩ := k1.go
        cases b with
        | true =>
         by_cases h2 : hv.getD i 0 = 2
         · exact (g2 rfl h2).1
         · by_cases h7 : hv.getD i 0 = 7
           · exact (g7 rfl h7).1
           · exact (g3 rfl hvi h2 h7).1
        | false => exact (g4 rfl).2
       rw [hm1, ih2]
       refine mcong _ _ fun j hj hvj => ?_
       have : j ≠ i := fun e => hvi (by rw [← e]; exact hvj)
       exact decide_eq_decide.2 (by omega)
 -- the orders
 let Q : Exit → Act → World → Prop := fun ex a' w' => ∃ E' s', E'.w = w' ∧ St w0 E' D s' a' ∧ Later E0 E' ∧ KE ex s'
 have hPan : ∀ {E : Env} {a : Act}, a.tmps.size = s.N → a.defers = D → Later E0 E → ∀ x w', PanOut pf w0 E x w' → Q (.panic [{ v := x, recovered := false }]) a w' := fun hn hd hl x w' hp => hp.code2 hn hd hl hAcc
 let Inv : (Nat → Bool) → Act → World → Prop := fun S a w => ∃ E, E.w = w ∧ Good w0 E (mem S) ∧ (∀ t, Rep E (val S t) (a.tmps.getD t undef)) ∧ a.tmps.size = s.N ∧ a.defers = D ∧ Later E0 E
 have hready : ∀ (listed : Array Bool), listed.size = ops.size → Region.ready .any ops listed = [] → ∀ i, i < ops.size → listed.getD i false = true := by
  intro listed hsz hr i
  induction i using Nat.strongRecOn with
  | _ i ih =>
   intro hi
   cases hl : listed.getD i false with
   | true => rfl
   | false =>
    have ho : ops[i]? = some ops[i] := Array.getElem?_eq_getElem hi
    have hmem : i ∈ Region.ready .any ops listed := mem_ready.2 ⟨by
     have : listed.getD i true = listed.getD i false := by simp [hsz, hi]
     rw [this]; exact hl, _, ho, fun e he hb => ih e.on ((anc_edges ha ho).1 e he hb) (by have := (anc_edges ha ho).1 e he hb; omega)⟩
    rw [hr] at hmem
    cases hmem
 have fin : ∀ (listed : Array Bool) (a : Act) (w : World), (∀ i, i < ops.size → listed.getD i false = true) → Inv (fun j => listed.getD j false) a w → Q .normal a w := by
  rintro listed a w hall ⟨E, rfl, g1, g2, g3, g4, g5⟩
  obtain ⟨c1, c2⟩ := canon ops.size (Nat.le_refl _)
  rw [hlen] at e4
  refine ⟨E, ⟨slA ops.size, mA ops.size, s.N⟩, rfl, ⟨?_, fun t => ?_, g3, g4⟩, g5, e4⟩
  · rw [c2, mcong _ (fun j => listed.getD j false) fun j hj _ => by rw [hall j hj]; simp [hj]]
    exact g1
  · rw [c1, vcong _ (fun j => listed.getD j false) t fun j hj _ => by rw [hall j hj]; simp [hj]]
    exact g2 t
 have step : ∀ (listed : Array Bool) (a : Act) (w : World) (i : Nat) (K : Act → World → Prop), listed.size = ops.size → Closed ops (fun j => listed.getD j false) → Inv (fun j => listed.getD j false) a w →
  i ∈ Region.ready .any ops listed → (∀ a' w', Inv (fun j => (listed.setIfInBounds i true).getD j false) a' w' → K a' w') → wpOpIn (FF ro) 0 P ops Q i K a w := by
  rintro listed a w i K hsz hcl ⟨E, rfl, g1, g2, g3, g4, g5⟩ hi hK
  obtain ⟨hun0, o, ho, hall⟩ := mem_ready.1 hi
  have hin : i < ops.size := (Array.getElem?_eq_some_iff.1 ho).1
  have hun : listed.getD i false = false := by
   have : listed.getD i true = listed.getD i false := by simp [hsz, hin]
   rw [← this]; exact hun0
  have hda : dstA i = o.dst := by simp [dstA, ho]
  have hanc := anc_closed ha hcl i ho hall
  have hS' : ∀ j, (listed.setIfInBounds i true).getD j false = if j = i then true else listed.getD j false := fun j => by
   by_cases e : j = i
   · subst e; simp [hsz, hin]
   · rw [if_neg e, getD_set_ne false (Ne.symm e)]
  -- nobody behind whom it matters to is done yet
  have hlate : ∀ j y, i < j → ops[j]? = some y → i ∈ anc.getD j [] → listed.getD j false = false := fun j y hij hy hja => by
   cases hl : listed.getD j false with
   | false => rfl
   | true =>
    have := anc_closed ha hcl j hy (hcl j y hy hl) i hja
    rw [hun] at this
    cases this
  have hread : ∀ t, t ∈ o.looksAt ops → val (fun j => listed.getD j false) t = Slots.get (slA i) t := fun t ht => by
   rw [(canon i (by omega)).1]
   refine vcong _ _ t fun j hj hdj => ?_
   have hy : ops[j]? = some ops[j] := Array.getElem?_eq_getElem hj
   have hdj' : ops[j].dst = some t := by simpa [dstA, hy] using hdj
   rcases Nat.lt_trichotomy j i with h1 | h1 | h1
   · rcases conf_spec6 hcf h1 hy ho with h2 | ⟨h2, _⟩
     · rw [hanc j h2]; simp [h1]
     · exact absurd ht ((Oper.apart_spec h2).1 t hdj')
   · subst h1; rw [hun]; simp
   · rcases conf_spec6 hcf h1 ho hy with h2 | ⟨h2, _⟩
     · rw [hlate j _ h1 hy h2]; simp; omega
     · exact absurd ht ((Oper.apart_spec h2).2.2 t hdj')
  have hmemr : (Hv (hv.getD i 0) = true ∨ hv.getD i 0 = 2) → mem (fun j => listed.getD j false) = mA i := fun hvi => by
   rw [(canon i (by omega)).2]
   refine mcong _ _ fun j hj hvj => ?_
   have hy : ops[j]? = some ops[j] := Array.getElem?_eq_getElem hj
   rcases Nat.lt_trichotomy j i with h1 | h1 | h1
   · rcases conf_spec6 hcf h1 hy ho with h2 | ⟨_, h2⟩
     · rw [hanc j h2]; simp [h1]
     · rcases hvi with hvi | hvi
       · rw [mc_hh hvj hvi] at h2; cases h2
       · rw [hvi, mc_h2 hvj] at h2; cases h2
   · subst h1; rw [hun]; simp
   · rcases conf_spec6 hcf h1 ho hy with h2 | ⟨_, h2⟩
     · rw [hlate j _ h1 hy h2]; simp; omega
     · rcases hvi with hvi | hvi
       · rw [mc_hh hvi hvj] at h2; cases h2
       · rw [hvi, mc_2h hvj] at h2; cases h2
  -- the old blocks, as one reads them
  have hold : hv.getD i 0 = 7 → OldB k0 (mem (fun j => listed.getD j false)) (mA i) := fun h7 => by
   have hlater : ∀ j, j < ops.size → i < j → hv.getD j 0 = 1 → listed.getD j false = false := fun j hj hij hvj => by
    have hy : ops[j]? = some ops[j] := Array.getElem?_eq_getElem hj
    rcases conf_spec6 hcf hij ho hy with h2 | ⟨_, h2⟩
    · exact hlate j _ hij hy h2
    · rw [h7, hvj, mc_71] at h2; cases h2
   have hclaim : ∀ t, t ≤ i → OldB k0 (mem (fun j => listed.getD j false && decide (j < t))) (mA t) := by
    intro t
    induction t with
    | zero =>
     intro _ id _ _
     have : mem (fun j => listed.getD j false && decide (j < 0)) = s.m := lastW_none _ _ 0 _ fun j _ _ => by simp
     rw [this, e2]
    | succ t ih =>
     intro ht id hid hid0
     have hot : ops[t]? = some ops[t] := Array.getElem?_eq_getElem (by omega)
     obtain ⟨k1, _⟩ := hstep t _ hot
     by_cases hvt : Hv (hv.getD t 0) = true
     · cases hlt : listed.getD t false with
       | true =>
        rw [mis _ t (by omega) hvt (by simp only [hlt, Bool.true_and]; exact decide_eq_true (by omega)) fun j hj hij _ => by
         rw [show decide (j < t + 1) = false from decide_eq_false (by omega), Bool.and_false]]
       | false =>
        have hsame : mem (fun j => listed.getD j false && decide (j < t + 1)) = mem (fun j => listed.getD j false && decide (j < t)) := mcong _ _ fun j hj _ => by
         by_cases e : j = t
         · subst e; rw [hlt]; simp
         · rw [show decide (j < t + 1) = decide (j < t) from decide_eq_decide.2 (by omega)]
        rw [hsame, ih (by omega) id hid hid0]
        have h6 : hv.getD t 0 = 6 := by
         rcases conf_spec6 hcf (show t < i by omega) hot ho with h2 | ⟨_, h2⟩
         · rw [hanc t h2] at hlt; cases hlt
         · have hc : hv.getD t 0 = 1 ∨ hv.getD t 0 = 6 := by simpa [Hv] using hvt
           rcases hc with hc | hc
           · rw [hc, h7, mc_17] at h2; cases h2
           · exact hc
        obtain ⟨b, _, _, g6, _, _, _, g4⟩ := k1.go
        cases b with
        | true => exact g6 rfl h6 id hid hid0
        | false => rw [(g4 rfl).2]
     · have hm1 : mA (t + 1) = mA t := by
        obtain ⟨b, _, _, _, g2, g7, g3, g4⟩ := k1.go
        cases b with
        | true =>
         by_cases h2 : hv.getD t 0 = 2
         · exact (g2 rfl h2).1
         · by_cases h7 : hv.getD t 0 = 7
           · exact (g7 rfl h7).1
           · exact (g3 rfl hvt h2 h7).1
        | false => exact (g4 rfl).2
       have hsame : mem (fun j => listed.getD j false && decide (j < t + 1)) = mem (fun j => listed.getD j false && decide (j < t)) := mcong _ _ fun j hj hvj => by
        have : j ≠ t := fun e => hvt (by rw [← e]; exact hvj)
        rw [show decide (j < t + 1) = decide (j < t) from decide_eq_decide.2 (by omega)]
       rw [hsame, hm1]
       exact ih (by omega) id hid hid0
   have hsame1 : ∀ t, t < ops.size → ¬ (Hv (hv.getD t 0) = true ∧ listed.getD t false = true) → mem (fun j => listed.getD j false && decide (j < t + 1)) = mem (fun j => listed.getD j false && decide (j < t)) := fun t ht hn => mcong _ _ fun j hj hvj => by
    by_cases e : j = t
    · subst e
      cases hl : listed.getD j false with
      | false => rfl
      | true => exact absurd ⟨hvj, hl⟩ hn
    · rw [show decide (j < t + 1) = decide (j < t) from decide_eq_decide.2 (by omega)]
   have hchain : ∀ n, i + n ≤ ops.size → (∀ s, i ≤ s → s < i + n → hv.getD s 0 ≠ 1) → OldB k0 (mA (i + n)) (mA i) := by
    intro n
    induction n with
    | zero => intro _ _ id _ _; rfl
    | succ n ih =>
     intro hle hn1 id hid hid0
     rw [← ih (by omega) (fun s h1 h2 => hn1 s h1 (by omega)) id hid hid0]
     have hot : ops[i + n]? = some ops[i + n] := Array.getElem?_eq_getElem (by omega)
     obtain ⟨k1, _⟩ := hstep (i + n) _ hot
     obtain ⟨b, _, _, g6, g2, g7, g3, g4⟩ := k1.go
     cases b with
     | false => rw [← Nat.add_assoc, (g4 rfl).2]
     | true =>
      by_cases h6 : hv.getD (i + n) 0 = 6
      · exact (g6 rfl h6 id hid hid0).symm
      · have hnv : ¬ Hv (hv.getD (i + n) 0) = true := fun hh => by
         have hc : hv.getD (i + n) 0 = 1 ∨ hv.getD (i + n) 0 = 6 := by simpa [Hv] using hh
         exact hc.elim (hn1 (i + n) (by omega) (by omega)) h6
        by_cases h2 : hv.getD (i + n) 0 = 2
        · rw [← Nat.add_assoc, (g2 rfl h2).1]
        · by_cases h7' : hv.getD (i + n) 0 = 7
          · rw [← Nat.add_assoc, (g7 rfl h7').1]
          · rw [← Nat.add_assoc, (g3 rfl hnv h2 h7').1]
   have hclaim2 : ∀ n, i + n ≤ ops.size → OldB k0 (mem (fun j => listed.getD j false && decide (j < i + n))) (mA i) := by
    intro n
    induction n with
    | zero => intro _; exact hclaim i (Nat.le_refl _)
    | succ n ih =>
     intro hle
     by_cases hh : Hv (hv.getD (i + n) 0) = true ∧ listed.getD (i + n) false = true
     · obtain ⟨hvt, hlt⟩ := hh
       have hne : n ≠ 0 := fun e => by subst e; rw [Nat.add_zero, hun] at hlt; cases hlt
       have hot : ops[i + n]? = some ops[i + n] := Array.getElem?_eq_getElem (by omega)
       have h6 : hv.getD (i + n) 0 = 6 := by
        have hc : hv.getD (i + n) 0 = 1 ∨ hv.getD (i + n) 0 = 6 := by simpa [Hv] using hvt
        rcases hc with hc | hc
        · rw [hlater (i + n) (by omega) (by omega) hc] at hlt; cases hlt
        · exact hc
       have hm : mem (fun j => listed.getD j false && decide (j < i + (n + 1))) = mA (i + n + 1) :=
        mis _ (i + n) (by omega) hvt (by simp only [hlt, Bool.true_and]; exact decide_eq_true (by omega)) fun j hj hij _ => by
         rw [show decide (j < i + (n + 1)) = false from decide_eq_false (by omega), Bool.and_false]
       rw [hm]
       refine hchain (n + 1) hle fun s h1 h2 hs1 => ?_
       have hsi : i < s := Nat.lt_of_le_of_ne h1 fun e => by rw [← e, h7] at hs1; cases hs1
       have hst : s < i + n := Nat.lt_of_le_of_ne (by omega) fun e => by rw [e, h6] at hs1; cases hs1
       have hos : ops[s]? = some ops[s] := Array.getElem?_eq_getElem (by omega)
       rcases conf_spec6 hcf hst hos hot with h3 | ⟨_, h3⟩
       · have := anc_closed ha hcl (i + n) hot (hcl (i + n) _ hot hlt) s h3
         rw [hlater s (by omega) hsi hs1] at this; cases this
       · rw [hs1, h6] at h3; exact absurd h3 (by decide)
     · rw [show i + (n + 1) = i + n + 1 by omega, hsame1 (i + n) (by omega) hh]
       exact ih (by omega)
   have hlast : mem (fun j => listed.getD j false) = mem (fun j => listed.getD j false && decide (j < i + (ops.size - i))) := mcong _ _ fun j hj hvj => by
    rw [show decide (j < i + (ops.size - i)) = true from decide_eq_true (by omega), Bool.and_true]
   rw [hlast]
   exact hclaim2 (ops.size - i) (by omega)
  have hval' : ∀ t, val (fun j => (listed.setIfInBounds i true).getD j false) t = if o.dst = some t then rA i else val (fun j => listed.getD j false) t := fun t => by
   by_cases hdt : o.dst = some t
   · rw [if_pos hdt]
     refine vis _ t i hin (by rw [hda]; exact hdt) (by rw [hS', if_pos rfl]) fun j hj hij hdj => ?_
     rw [hS', if_neg (by omega)]
     have hy : ops[j]? = some ops[j] := Array.getElem?_eq_getElem hj
     have hdj' : ops[j].dst = some t := by simpa [dstA, hy] using hdj
     rcases conf_spec6 hcf hij ho hy with h2 | ⟨h2, _⟩
     · exact hlate j _ hij hy h2
     · exact absurd hdj' ((Oper.apart_spec h2).2.1 t hdt)
   · rw [if_neg hdt]
     refine vcong _ _ t fun j hj hdj => ?_
     have : j ≠ i := fun e => hdt (by rw [← hda, ← e]; exact hdj)
     rw [hS', if_neg this]
  have hmem' : mem (fun j => (listed.setIfInBounds i true).getD j false) = if Hv (hv.getD i 0) = true then mA (i + 1) else mem (fun j => listed.getD j false) := by
   by_cases hvi : Hv (hv.getD i 0) = true
   · rw [if_pos hvi]
     refine mis _ i hin hvi (by rw [hS', if_pos rfl]) fun j hj hij hvj => ?_
     rw [hS', if_neg (by omega)]
     have hy : ops[j]? = some ops[j] := Array.getElem?_eq_getElem hj
     rcases conf_spec6 hcf hij ho hy with h2 | ⟨_, h2⟩
     · exact hlate j _ hij hy h2
     · rw [mc_hh hvi hvj] at h2; cases h2
   · rw [if_neg hvi]
     refine mcong _ _ fun j hj hvj => ?_
     have : j ≠ i := fun e => hvi (by rw [← e]; exact hvj)
     rw [hS', if_neg this]
  obtain ⟨⟨hdst, b, hgd, hheavy, _, hlook, hseven, hfree, hskip⟩, _⟩ := hstep i o ho
  have hnext : ∀ v E' M', Good w0 E' M' → Later E E' → Rep E' (rA i) v → M' = mem (fun j => (listed.setIfInBounds i true).getD j false) → K (a.put o.dst v) E'.w := fun v E' M' k1 k2 k3 k4 => by
   refine hK _ _ ⟨E', rfl, k4 ▸ k1, fun t => ?_, ?_, ?_, g5.trans k2⟩
   · rw [hval']
     cases hdo : o.dst with
     | none => simp only [Act.put, reduceCtorEq, if_false]; exact (g2 t).later k2
     | some d =>
      have hds : d < a.tmps.size := by rw [g3]; exact hdst d hdo
      by_cases hdt : d = t
      · subst hdt
        simp only [Act.put, if_true]
        have : (a.tmps.setIfInBounds d v).getD d undef = v := by simp [hds]
        rw [this]; exact k3
      · rw [if_neg (by simpa using hdt)]
        have : ((a.put (some d) v).tmps).getD t undef = a.tmps.getD t undef := by simp [Act.put, Array.getElem?_setIfInBounds_ne hdt]
        rw [this]; exact (g2 t).later k2
   · cases o.dst <;> simp [Act.put, g3]
   · cases o.dst <;> exact g4
  have hw : Region.wanted o (yielded ops a.tmps) = b := by
   unfold Region.wanted
   cases hgo : o.guard with
   | none => rw [hgo] at hgd; exact (show b = true from hgd).symm
   | some q =>
    obtain ⟨j, w⟩ := q
    rw [hgo] at hgd
    obtain ⟨d, c, h1, h2, h3, h4⟩ := hgd
    have hdl : d ∈ o.looksAt ops := List.mem_append_right _ (by simp [hgo, h1])
    have hv := g2 d
    rw [hread d hdl] at hv
    have hds : d < a.tmps.size := by rw [g3]; exact h2
    have : a.tmps.getD d undef = a.tmps[d] := by simp [Array.getD, hds]
    rw [this] at hv
    have hy : (yielded ops a.tmps j == some w) = c := by
     unfold yielded
     rw [h1]
     simp only [Option.bind_some, Array.getElem?_eq_getElem hds]
     have := gv_wanted hv h3
     generalize a.tmps[d] = v at this ⊢
     cases v <;> exact this
    rw [h4]; exact hy
  unfold wpOpIn
  simp only [ho]
  rw [hw]
  cases b with
  | false =>
   obtain ⟨k1, k2⟩ := hskip rfl
   simp only [Bool.false_eq_true, if_false]
   refine ⟨fun _ _ => trivial, ?_⟩
   refine hnext undef E _ g1 (.refl E) (by rw [k1]; exact rep_undef) ?_
   rw [hmem']
   split
   · rename_i hvi; rw [hmemr (.inl hvi), k2]
   · rfl
  | true =>
   simp only [if_true]
   let ts : List Nat := o.op.operands.toList.filterMap fun | .tmp t => some t | _ => none
   have hts : ∀ t, t ∈ ts → t ∈ o.looksAt ops := fun t ht => List.mem_append_left _ ht
   let L := lkL (val (fun j => listed.getD j false)) ts
   have hevs : ∀ z, z ∈ o.op.operands → ev (slA i) z = ev L z := fun z hz => by
    cases z with
    | tmp t =>
     have ht : t ∈ ts := List.mem_filterMap.2 ⟨.tmp t, by simpa using hz, rfl⟩
     show Slots.get (slA i) t = Slots.get L t
     rw [get_lkL, if_pos ht, hread t (hts t ht)]
    | _ => rfl
   have hst : ∀ M, Good w0 E M → St w0 E D ⟨L, M, s.N⟩ a := fun M hM => ⟨hM, fun t => by
    show Rep E (Slots.get L t) _
    rw [get_lkL]
    split
    · exact g2 t
    · exact .x _, g3, g4⟩
   by_cases hvi : Hv (hv.getD i 0) = true
   · have hop := hheavy rfl hvi
     rw [opX_ev (N' := s.N) hevs, ← hmemr (.inl hvi)] at hop
     refine wpIn_of_wp (fun c e => by rw [e] at hop; exact hop) ?_
     exact opX_upon hT (hst _ g1) hop (fun v E' M' x' k1 k2 k3 k4 => hnext v E' M' k1 k2 (k4.1 ▸ k3) (by rw [hmem', if_pos hvi]; exact k4.2)) (hPan g3 g4 g5)
   · by_cases hv2 : hv.getD i 0 = 2
     · have hop := (hlook rfl hv2).2
       rw [opX_ev (N' := s.N) hevs, ← hmemr (.inr hv2)] at hop
       refine wpIn_of_wp (fun c e => by rw [e] at hop; exact hop) ?_
       exact opX_upon hT (hst _ g1) hop (fun v E' M' x' k1 k2 k3 k4 => hnext v E' M' k1 k2 (k4.1 ▸ k3) (by rw [hmem', if_neg hvi]; exact k4.2)) (hPan g3 g4 g5)
     · by_cases hv7 : hv.getD i 0 = 7
       · have hop := (hseven rfl hv7).2 _ (hold hv7)
         rw [opX_ev (N' := s.N) hevs] at hop
         refine wpIn_of_wp (fun c e => by rw [e] at hop; exact hop) ?_
         exact opX_upon hT (hst _ g1) hop (fun v E' M' x' k1 k2 k3 k4 => hnext v E' M' k1 k2 (k4.1 ▸ k3) (by rw [hmem', if_neg hvi]; exact k4.2)) (hPan g3 g4 g5)
       have hop := (hfree rfl hvi hv2 hv7).2 (mem (fun j => listed.getD j false))
       rw [opZ_ev (N' := s.N) hevs] at hop
       refine wpIn_of_wp (fun c e => by rw [e] at hop; exact hop) ?_
       exact opZ_upon hT (hst _ g1) hop (fun v E' M' x' k1 k2 k3 k4 => hnext v E' M' k1 k2 (k4.1 ▸ k3) (by rw [hmem', if_neg hvi]; exact k4.2)) (hPan g3 g4 g5)
 have main : ∀ (fuel : Nat) (listed : Array Bool) (a : Act) (w : World), listed.size = ops.size → Closed ops (fun j => listed.getD j false) → ((List.range ops.size).filter fun j => !listed.getD j false).length ≤ fuel →
  Inv (fun j => listed.getD j false) a w → wpAnyIn (FF ro) 0 P .any ops Q fuel listed a w := by
  intro fuel
  induction fuel with
  | zero =>
   intro listed a w hsz hcl hcnt hinv
   have hnil : (List.range ops.size).filter (fun j => !listed.getD j false) = [] := List.eq_nil_of_length_eq_zero (by omega)
   have hall : ∀ i, i < ops.size → listed.getD i false = true := fun i hi => by
    have := List.filter_eq_nil_iff.1 hnil i (List.mem_range.2 hi)
    simpa using this
   refine ⟨?_, fin listed a w hall hinv⟩
   refine List.eq_nil_iff_forall_not_mem.2 fun i hi => ?_
   obtain ⟨h1, o, ho, _⟩ := mem_ready.1 hi
   have hin : i < ops.size := (Array.getElem?_eq_some_iff.1 ho).1
   have h2 := hall i hin
   have : listed.getD i true = listed.getD i false := by simp [hsz, hin]
   rw [this, h2] at h1
   cases h1
  | succ fuel ih =>
   intro listed a w hsz hcl hcnt hinv
   refine ⟨fun hr => fin listed a w (hready listed hsz hr) hinv, fun i hi => step listed a w i _ hsz hcl hinv hi fun a' w' hinv' => ?_⟩
   obtain ⟨h1, o, ho, hall⟩ := mem_ready.1 hi
   have hin : i < ops.size := (Array.getElem?_eq_some_iff.1 ho).1
   have hun : listed.getD i false = false := by
    have : listed.getD i true = listed.getD i false := by simp [hsz, hin]
    rw [← this]; exact h1
   have hS' : ∀ j, (listed.setIfInBounds i true).getD j false = if j = i then true else listed.getD j false := fun j => by
    by_cases e : j = i
    · subst e; simp [hsz, hin]
    · rw [if_neg e, getD_set_ne false (Ne.symm e)]
   refine ih _ a' w' (by simp [hsz]) (fun j y hy hj e he hb => ?_) ?_ hinv'
   · simp only [hS'] at hj ⊢
     by_cases hji : j = i
     · subst hji
       rw [ho] at hy; cases hy
       split
       · rfl
       · exact hall e he hb
     · rw [if_neg hji] at hj
       split
       · rfl
       · exact hcl j y hy hj e he hb
   · have hlt : ((List.range ops.size).filter fun j => !(listed.setIfInBounds i true).getD j false).length < ((List.range ops.size).filter fun j => !listed.getD j false).length :=
      filter_lt _ (fun j _ hj => by
       simp only [hS'] at hj
       split at hj
       · simp at hj
       · exact hj) i (List.mem_range.2 hin) (by simp only [hun]; rfl) (by simp only [hS']; simp)
     omega
 refine wpIn_region_any hm (main ops.size _ a0 _ (by simp) (fun j y _ hj => ?_) ?_ ?_)
 · by_cases h : j < ops.size <;> simp [h] at hj
 · refine Nat.le_trans (List.length_filter_le _ _) (by simp)
 · obtain ⟨k1, k2⟩ := hs.g.drawn (E0.w.drawn + 1)
   have h0 : ∀ j, (Array.replicate ops.size false).getD j false = false := fun j => by
    by_cases h : j < ops.size <;> simp [h]
   refine ⟨_, rfl, ?_, fun t => ?_, hs.n, hs.d, k2⟩
   · have : mem (fun j => (Array.replicate ops.size false).getD j false) = s.m := lastW_none _ _ 0 _ fun j _ _ => h0 _
     rw [this]; exact k1
   · have : val (fun j => (Array.replicate ops.size false).getD j false) t = Slots.get s.sl t := lastW_none _ _ 0 _ fun j _ _ => h0 _
     rw [this]; exact (hs.r t).later k2
end
def stepW (pf : Value → Mem → Prop) (P : Program) (tab : Tab) (k0 : Nat) : Nat → (ASt → Prop) → Option Tmp → Op → ASt → Prop
 | 6, K, dst, op, s => ∃ r M', opX pf P tab s (fun a M2 => a = r ∧ M2 = M') op ∧ OldB k0 s.m M' ∧ setK s K dst r M'
 | 7, K, dst, op, s => ∃ r, (∀ M0, OldB k0 M0 s.m → opX pf P tab ⟨s.sl, M0, s.N⟩ (fun a M2 => a = r ∧ M2 = M0) op) ∧ setK s K dst r s.m
 | c, K, dst, op, s => stepS pf P tab c K dst op s
theorem stepW_else {P : Program} {tab : Tab} {k0 c : Nat} {K : ASt → Prop} {dst : Option Tmp} {op : Op} {s : ASt} (h1 : c ≠ 6) (h2 : c ≠ 7) : stepW pf P tab k0 c K dst op s = stepS pf P tab c K dst op s := by
 unfold stepW
 split
 · exact absurd rfl h1
 · exact absurd rfl h2
 · rfl
def drW (pf : Value → Mem → Prop) (P : Program) (tab : Tab) (ops : Array Oper) (k0 : Nat) : List Oper → List Nat → (ASt → Prop) → ASt → Prop
 | [], _, K, s => K s
 | _ :: _, [], _, _ => False
 | o :: l, c :: cs, K, s => guardK ops s o.guard (stepW pf P tab k0 c (drW pf P tab ops k0 l cs K) o.dst o.op s) (setK s (drW pf P tab ops k0 l cs K) o.dst (.t []) s.m)
theorem drW_trace {P : Program} {tab : Tab} {ops : Array Oper} {k0 : Nat} {K : ASt → Prop} : ∀ (l : List Oper) (hv : List Nat) (s : ASt), drW pf P tab ops k0 l hv K s → TraceL6 pf P tab ops s.N k0 l hv s.sl s.m K
 | [], hv, s, h => ⟨fun _ => s.sl, fun _ => s.m, fun _ => .x, rfl, rfl, fun i h => absurd h (by simp), h⟩
 | o :: l, [], s, h => h.elim
 | o :: l, c :: hs, s, h => by
  have hyes : stepW pf P tab k0 c (drW pf P tab ops k0 l hs K) o.dst o.op s → Gd ops s.N s.sl o.guard true → TraceL6 pf P tab ops s.N k0 (o :: l) (c :: hs) s.sl s.m K := fun h hg => by
   by_cases n6 : c = 6
   · subst n6
     obtain ⟨r, M', h1, h0, h2⟩ := h
     obtain ⟨k1, k2⟩ := setK_dst h2
     exact .cons ⟨k1, true, hg, fun _ _ => h1, fun _ _ => h0, (fun _ h => by cases h), (fun _ h => by cases h), (fun _ h => absurd rfl h), (fun h => by cases h)⟩ (drW_trace l hs _ k2)
   by_cases n7 : c = 7
   · subst n7
     obtain ⟨r, h1, h2⟩ := h
     obtain ⟨k1, k2⟩ := setK_dst h2
     exact .cons ⟨k1, true, hg, (fun _ h => by cases h), (fun _ h => by cases h), (fun _ h => by cases h), fun _ _ => ⟨rfl, h1⟩, (fun _ _ _ h => absurd rfl h), (fun h => by cases h)⟩ (drW_trace l hs ⟨putO s.sl o.dst r, s.m, s.N⟩ k2)
   rw [stepW_else n6 n7] at h
   by_cases n1 : c = 1
   · subst n1
     obtain ⟨r, M', h1, h2⟩ := h
     obtain ⟨k1, k2⟩ := setK_dst h2
     exact .cons ⟨k1, true, hg, fun _ _ => h1, (fun _ h => by cases h), (fun _ h => by cases h), (fun _ h => by cases h), (fun _ h => absurd rfl h), (fun h => by cases h)⟩ (drW_trace l hs _ k2)
   have nh : ¬ Hv c = true := fun h => by
    have : c = 1 ∨ c = 6 := by simpa [Hv] using h
    rcases this with h | h
    · exact n1 h
    · exact n6 h
   by_cases n2 : c = 2
   · subst n2
     obtain ⟨h0, h1⟩ := h
     obtain ⟨r, h2, h3⟩ := read_pin h0 (aopS_op h0.1 h1)
     obtain ⟨k1, k2⟩ := setK_dst h2
     exact .cons ⟨k1, true, hg, (fun _ h => absurd h nh), (fun _ h => by cases h), (fun _ _ => ⟨rfl, opX_of h0.1 h3⟩), (fun _ h => by cases h), (fun _ _ h => absurd rfl h), (fun h => by cases h)⟩ (drW_trace l hs ⟨putO s.sl o.dst r, s.m, s.N⟩ k2)
   · have h : ∃ r, setK s (drW pf P tab ops k0 l hs K) o.dst r s.m ∧ ∀ M0, opZ pf P tab ⟨s.sl, M0, s.N⟩ (fun a M2 => a = r ∧ M2 = M0) o.op := by
      by_cases n3 : c = 3
      · subst n3
        obtain ⟨r, h1, h2⟩ := h
        exact ⟨r, h2, h1⟩
      · rw [stepS_else n1 n2 n3] at h
        exact stepZ_pin h
     obtain ⟨r, h2, h3⟩ := h
     obtain ⟨k1, k2⟩ := setK_dst h2
     exact .cons ⟨k1, true, hg, (fun _ h => absurd h nh), (fun _ h => absurd h n6), (fun _ h => absurd h n2), (fun _ h => absurd h n7), (fun _ _ _ _ => ⟨rfl, h3⟩), (fun h => by cases h)⟩ (drW_trace l hs ⟨putO s.sl o.dst r, s.m, s.N⟩ k2)
  have hno : setK s (drW pf P tab ops k0 l hs K) o.dst (.t []) s.m → Gd ops s.N s.sl o.guard false → TraceL6 pf P tab ops s.N k0 (o :: l) (c :: hs) s.sl s.m K := fun h hg => by
   obtain ⟨k1, k2⟩ := setK_dst h
   exact .cons ⟨k1, false, hg, (fun h => by cases h), (fun h => by cases h), (fun h => by cases h), (fun h => by cases h), (fun h => by cases h), fun _ => ⟨rfl, rfl⟩⟩ (drW_trace l hs _ k2)
  unfold drW at h
  cases hgo : o.guard with
  | none =>
   rw [hgo] at h hyes
   exact hyes h rfl
  | some q =>
   obtain ⟨j, w⟩ := q
   rw [hgo] at h hyes hno
   obtain ⟨d, b, h1, h2, h3, h4⟩ := h
   cases b with
   | true =>
    simp only [if_true] at h4
    exact hyes h4 ⟨d, true, h1, h2, h3, rfl⟩
   | false =>
    simp only [Bool.false_eq_true, if_false] at h4
    exact hno h4 ⟨d, false, h1, h2, h3, rfl⟩
theorem draw_ruleW {P : Program} {tab : Tab} (hT : TabOk P tab) (hm : P.follows .mixedOrders = true) {ops : Array Oper} (k0 : Nat) (hv : List Nat) (anc : List (List Nat)) (hd : drawOk6 ops hv anc = true) {id : Nat} {KE : Exit → ASt → Prop} {s : ASt}
 (h : drW pf P tab ops k0 ops.toList hv (KE .normal) s) : ACodeG pf P (.region id ops true) KE s :=
 draw_sound6 hm hT hd (drW_trace _ _ _ h)
section
variable {P : Program} {tab : Tab} {ops : Array Oper} {k0 : Nat} {K : ASt → Prop} {dst : Option Tmp} {sl : Slots} {m : Mem} {N : Nat} {s : ASt} {l : List Oper} {hs : List Nat} {h : Nat} {op : Op} {ty : TypeId} {pos : String} {af : Array Edge} {j : Nat} {w : Bool} {T : TypeId} {x' : Operand}
theorem w_nil {hs : List Nat} : drW pf P tab ops k0 [] hs K s = K s := by unfold drW; rfl
theorem w_op : drW pf P tab ops k0 (⟨dst, op, ty, pos, af, none⟩ :: l) (h :: hs) K s = stepW pf P tab k0 h (drW pf P tab ops k0 l hs K) dst op s := rfl
theorem w_opg : drW pf P tab ops k0 (⟨dst, op, ty, pos, af, some (j, w)⟩ :: l) (h :: hs) K s = gS ((ops[j]?).bind (·.dst)) w (stepW pf P tab k0 h (drW pf P tab ops k0 l hs K) dst op) (skS (drW pf P tab ops k0 l hs K) dst) s := rfl
theorem w_0 : stepW pf P tab k0 0 K dst op s = stepS pf P tab 0 K dst op s := rfl
theorem w_1 : stepW pf P tab k0 1 K dst op s = stepS pf P tab 1 K dst op s := rfl
theorem w_2 : stepW pf P tab k0 2 K dst op s = stepS pf P tab 2 K dst op s := rfl
theorem w_3 : stepW pf P tab k0 3 K dst op s = stepS pf P tab 3 K dst op s := rfl
theorem w_call {f : FuncId} {as : Array Operand} {ts : Array TypeId} {r : AV} {M' : Mem} (h1 : ICallG pf P f (as.toList.map (ev sl)) m (fun a M2 => a = r ∧ M2 = M')) (h0 : OldB k0 m M') (h2 : setT sl N K dst r M') : stepW pf P tab k0 6 K dst (.call ⟨.value (.func f), as, ts⟩) ⟨sl, m, N⟩ :=
 ⟨r, M', by show ICallG pf P f (as.toList.map (fun o => ev sl o) ++ []) m _; rw [List.append_nil]; exact h1, h0, by rw [setT_eq]; exact h2⟩
theorem w_load {id i j n : Nat} {ti : TI} {blk : Blk} {el : AV} (hx : ev sl x' = .p id i j n) (hid : id < k0) (ht : assoc tab T = some ti) (hk : ti.k.known = true) (hm : m.get id = some blk) (hn : n = blk.xs.length) (hj : j + ti.sz ≤ blk.sz ∧ j < blk.sz)
 (he : ∀ K : AV → Prop, K el → Elem blk.xs i K) (h2 : setT sl N K dst (part ti (el.cells.drop j)) m) (hid0 : 1000 ≤ k0 → id ≠ 0 := by decide) : stepW pf P tab k0 7 K dst (.load T x') ⟨sl, m, N⟩ :=
 ⟨_, fun M0 h0 => by
  show tiK tab T fun ti => ti.k.known = true ∧ loadK ti M0 (ev sl x') _
  rw [hx]
  exact ⟨ti, ht, hk, blk, by rw [h0 id hid hid0]; exact hm, hn, hj.1, hj.2, he _ ⟨rfl, rfl⟩⟩, by rw [setT_eq]; exact h2⟩
end
end Go.Ab
namespace Go.Ab
open Go Go.RowKit
variable {pf : Value → Mem → Prop}
theorem Good.review {w0 : World} {E : Env} {M : Mem} (hg : Good w0 E M) {id : Nat} {blk blk' : Blk} (h : M.get id = some blk) (hT : blk'.T = blk.T) (hs : blk'.sz = blk.sz) (hn : blk'.xs.length = blk.xs.length)
 (hr : ∀ i (h1 : i < blk.xs.length) (h2 : i < blk'.xs.length), blk'.xs[i].cells.length = blk.xs[i].cells.length ∧ ∀ j (k1 : j < blk.xs[i].cells.length) (k2 : j < blk'.xs[i].cells.length) y, Rep E blk.xs[i].cells[j] y → Rep E blk'.xs[i].cells[j] y) :
 Good w0 E (M.put id blk') := by
 have hget : ∀ i, (M.put id blk').get i = if id = i then some blk' else M.get i := fun i => assoc_insert _ _ _ _
 refine ⟨hg.below, hg.k, hg.lt, fun i hi => ?_, fun i b hi => ?_, hg.hid, hg.old, hg.inj⟩
 · rw [hget] at hi
   split at hi
   · cases hi
   · exact hg.gone i hi
 · rw [hget] at hi
   split at hi
   · rename_i e
     subst e
     injection hi with hi
     subst hi
     obtain ⟨q, a1, a2, a3, a4, a5⟩ := hg.held id blk h
     refine ⟨q, a1, by rw [hs]; exact a2, by rw [hn]; exact a3, a4, fun hcp => ⟨(a5 hcp).1, (a5 hcp).2.1, ?_⟩⟩
     obtain ⟨arr, d1, d2, d3⟩ := (a5 hcp).2.2
     refine ⟨arr, by rw [hT]; exact d1, ⟨d2.1, by rw [hT, hn, hs]; exact d2.2⟩, fun i hi => ?_⟩
     have hi' : i < blk.xs.length := by rw [← hn]; exact hi
     obtain ⟨r1, r2⟩ := hr i hi' hi
     refine ⟨by rw [r1, hs]; exact (d3 i hi').1, fun j hj => ?_⟩
     obtain ⟨y, y1, y2, y3⟩ := (d3 i hi').2 j (by rw [← r1]; exact hj)
     exact ⟨y, by rw [hs]; exact y1, y2, r2 j (by rw [← r1]; exact hj) hj y y3⟩
   · exact hg.held i b hi
theorem rep_nil_own {E : Env} {v : Value} (hr : Rep E (.c (.slice none 0 0)) v) {k sz : Nat} (hk : k < E.k) (ha : E.ad k = some ⟨0, sz, 0, 0⟩) : Rep E (.s k 0 0) v := by
 have hv : v = .slice none 0 0 := by cases hr; rfl
 subst hv
 refine .s _ 0 0 none 0 hk fun q hq => ?_
 rw [ha] at hq
 simp only [Option.some.injEq] at hq
 subst hq
 exact ⟨Nat.le_refl _, fun _ => ⟨rfl, fun h => by simp at h⟩⟩
theorem adopt_cell {P : Program} {c : Code} {K : Exit → ASt → Prop} {sl : Slots} {m : Mem} {N : Nat} (id : Nat) (T0 : TypeId) (sz0 : Nat) (cs : List AV) (j : Nat) (T : TypeId) (sz : Nat)
 (hm : m.get id = some ⟨T0, sz0, [.g cs]⟩) (hj : cs[j]? = some (.c (.slice none 0 0))) (h : ACodeG pf P c K ⟨sl, (newMem m ⟨T, sz, []⟩).put id ⟨T0, sz0, [.g (cs.set j (.s m.k 0 0))]⟩, N⟩) : ACodeG pf P c K ⟨sl, m, N⟩ := fun hK ro w0 E D a hst => by
 obtain ⟨hg, hl⟩ := hst.g.adopt T sz
 have hk : m.k = E.k := hst.g.k
 have hid : id < m.k := by
  obtain ⟨q, h1, _⟩ := hst.g.held id _ hm
  have := hst.g.lt id q h1
  omega
 have hm2 : (newMem m ⟨T, sz, []⟩).get id = some ⟨T0, sz0, [.g cs]⟩ := by
  show assoc (insert m.l m.k _) id = _
  rw [assoc_insert, if_neg (by omega)]; exact hm
 have hg2 : Good w0 (E.adopt sz) ((newMem m ⟨T, sz, []⟩).put id ⟨T0, sz0, [.g (cs.set j (.s m.k 0 0))]⟩) := by
  refine hg.review hm2 rfl rfl rfl fun i h1 h2 => ?_
  have h0 : i = 0 := by simpa using h1
  subst h0
  refine ⟨by simp [AV.cells], fun k k1 k2 y hr => ?_⟩
  simp only [List.getElem_cons_zero, AV.cells] at hr k1 k2 ⊢
  by_cases e : j = k
  · subst e
    rw [List.getElem?_eq_getElem k1] at hj
    injection hj with hj
    rw [hj] at hr
    rw [List.getElem_set_self]
    exact rep_nil_own (sz := sz) hr (by show m.k < E.k + 1; omega) (by simp only [Env.adopt, hk, if_true])
  · rw [List.getElem_set_ne e]; exact hr
 have hE : (E.adopt sz).w = E.w := rfl
 rw [← hE]
 refine Code.wpIn_mono (fun _ _ _ ⟨E', s', h1, h2, h3, h4⟩ => ⟨E', s', h1, h2, hl.trans h3, h4⟩) (h (fun x s hx => hK x s hx) ro w0 (E.adopt sz) D a ⟨hg2, fun u => (hst.r u).later hl, hst.n, hst.d⟩)
end Go.Ab
namespace Go.Ab
open Go Go.RowKit
variable {pf : Value → Mem → Prop}
theorem icall_see {P : Program} {f : FuncId} {args : List AV} {M : Mem} {K : AV → Mem → Prop} (id : Nat) (T0 : TypeId) (sz0 sz : Nat) (hm : M.get id = some ⟨T0, sz0, [.c (.slice none 0 0)]⟩)
 (h : ICallG pf P f args (M.put id ⟨T0, sz0, [.l sz []]⟩) K) : ICallG pf P f args M K := by
 refine ⟨h.1, fun w0 E vs hg hs hr => h.2 w0 E vs (hg.review hm rfl rfl rfl fun i h1 h2 => ?_) hs hr⟩
 have h0 : i = 0 := by simpa using h1
 subst h0
 refine ⟨rfl, fun j k1 k2 y hy => ?_⟩
 have hj : j = 0 := by simpa [AV.cells] using k1
 subst hj
 have hv : y = .slice none 0 0 := by
  have hy' : Rep E (.c (.slice none 0 0)) y := hy
  cases hy'; rfl
 subst hv
 exact .l0 _ _ _
section
variable {P : Program} {tab : Tab} {sl : Slots} {m : Mem} {N : Nat} {KX : AV → Mem → Prop} {T : TypeId}
theorem zx_build {ps : Array (Nat × Operand)} : opZ pf P tab ⟨sl, m, N⟩ KX (.build T ps) = tiK tab T fun ti => bldK tab ti m (ps.toList.map fun p => (p.1, ev sl p.2)) KX ti.k := rfl
end
end Go.Ab
namespace Go.Ab
open Go Go.RowKit
def valB (l : List UInt8) : Array Value := (l.map fun c => Value.int .u8 c.toNat).toArray
theorem valB_get (l : List UInt8) (i : Nat) : (valB l)[i]? = l[i]?.map fun c => Value.int .u8 c.toNat := by simp [valB]
theorem run_items {P : Program} {e : TypeId} (he : P.underlying e = some (.int .u8)) (d : Nat) (w : World) (l m : List UInt8) : ∀ is : List Nat, (∀ i ∈ is, i < l.length ∧ i < m.length) →
 (Op.eqItems (d + 1) e 1 (valB l) (valB m) is).run P w = .ok (decide (∀ i ∈ is, l.getD i 0 = m.getD i 0)) w
 | [], _ => by simp [Op.eqItems]
 | i :: is, h => by
  have hi := h i (by simp)
  have hp : ∀ k : List UInt8, i < k.length → (Go.part e (valB k) (i * 1)).run P w = .ok (.int .u8 (k.getD i 0).toNat) w := fun k hk => by
   have ha : (isAgg e).run P w = .ok false w := by simp [isAgg, run_underlying he]
   have hg : (valB k)[i]? = some (.int .u8 (k.getD i 0).toNat) := by rw [valB_get, List.getD_eq_getElem?_getD, List.getElem?_eq_getElem hk]; rfl
   simp [Go.part, ha, Result.andThen, hg]
  simp only [Op.eqItems, Sem.run_bind, hp l hi.1, hp m hi.2, Result.andThen_ok, run_equalIn_int w d e .u8 .u8 _ _ he]
  have ih := run_items he d w l m is fun j hj => h j (by simp [hj])
  by_cases hq : l.getD i 0 = m.getD i 0
  · have hb : (((l.getD i 0).toNat : Int) == ((m.getD i 0).toNat : Int)) = true := by rw [hq]; exact beq_self_eq_true _
    rw [show decide (∀ j ∈ i :: is, l.getD j 0 = m.getD j 0) = decide (∀ j ∈ is, l.getD j 0 = m.getD j 0) from decide_eq_decide.2 ⟨fun h j hj => h j (by simp [hj]), fun h j hj => by
     rcases List.mem_cons.1 hj with rfl | hj
     · exact hq
     · exact h j hj⟩]
    simp only [hb, Bool.not_true, Bool.false_eq_true, if_false]
    exact ih
  · have hne : ((l.getD i 0).toNat : Int) ≠ (m.getD i 0).toNat := fun e => hq (UInt8.toNat_inj.1 (by omega))
    have hb : (((l.getD i 0).toNat : Int) == ((m.getD i 0).toNat : Int)) = false := beq_eq_false_iff_ne.2 hne
    rw [show decide (∀ j ∈ i :: is, l.getD j 0 = m.getD j 0) = false from decide_eq_false fun h => hq (h i (by simp))]
    simp only [hb, Bool.not_false, if_true, Sem.run_pure]
theorem rep_bytesA {E : Env} {l : List UInt8} {ys : Array Value} (h : Rep E (.g (l.map encB)) (.agg ys)) : ys = valB l := by
 cases h with | g _ _ h hr =>
 refine Array.ext (by simpa [valB] using h) fun i h1 h2 => ?_
 have := hr i (by simpa [valB] using h2) h1
 simp only [List.getElem_map] at this
 have e : (valB l)[i] = .int .u8 (l[i]'(by simpa [valB] using h2)).toNat := by simp [valB]
 rw [e]
 generalize ys[i] = v at this
 cases this; rfl
theorem AggEq.bytes {P : Program} {t e : TypeId} {n : Nat} {i : TypeInfo} (hu : P.underlying t = some (.array n e)) (hi : P.info? e = some i) (hc : P.cellsOf e = 1) (he : P.underlying e = some (.int .u8)) (hg : P.eqGuardType P.depth t = false)
 {l m : List UInt8} (h1 : l.length = n) (h2 : m.length = n) : AggEq P t (l.map encB) (m.map encB) (decide (l = m)) := fun E ys zs hy hz x y => by
 have e1 := rep_bytesA hy
 have e2 := rep_bytesA hz
 subst e1; subst e2
 have hr : (Op.equalIn 10000 t (.agg (valB l)) (.agg (valB m))).run P E.w = .ok (decide (l = m)) E.w := by
  rw [run_equalIn_array E.w 9999 _ _ hu hi, hc, run_items he 9998 E.w l m _ fun j hj => by have := List.mem_range.1 hj; omega]
  congr 1
  refine decide_eq_decide.2 ⟨fun h => List.ext_getElem (by omega) fun j k1 k2 => ?_, fun h => by rw [h]; exact fun _ _ => rfl⟩
  have := h j (List.mem_range.2 (by omega))
  rwa [List.getD_eq_getElem?_getD, List.getD_eq_getElem?_getD, List.getElem?_eq_getElem k1, List.getElem?_eq_getElem k2] at this
 refine ⟨?_, ?_⟩
 · simp only [Sem.run_bind, run_eqGuard_agg E.w .eql t x y _ _ hg, Result.andThen_ok, run_eql_struct, hr]
 · simp only [Sem.run_bind, run_eqGuard_agg E.w .neq t x y _ _ hg, Result.andThen_ok, run_neq_struct, hr]
end Go.Ab
namespace Go.Ab
open Go Go.RowKit
variable {pf : Value → Mem → Prop}
theorem RepS.see {E : Env} {s : Slots} {tmps : Array Value} (h : RepS E s tmps) {t : Nat} {a : AV} (hr : Rep E a (tmps.getD t undef)) : RepS E (insert s t a) tmps := by
 intro u
 unfold Slots.get
 rw [assoc_insert]
 by_cases e : t = u
 · subst e; simpa using hr
 · rw [if_neg e]; exact h u
theorem room_rule {P : Program} {c : Code} {K : Exit → ASt → Prop} {sl : Slots} {m : Mem} {N : Nat} (t id n : Nat) (T : TypeId) (sz : Nat) (xs : List AV) (ht : Slots.get sl t = .s id 0 n) (hm : m.get id = some ⟨T, sz, xs⟩)
 (hn : n = xs.length) (h0 : 0 < n) (hp : PureL xs)
 (h1 : ACodeG pf P c K ⟨insert sl t (.u sz xs), m.drop id, N⟩) (h2 : ACodeG pf P c K ⟨insert sl t (.w id n (n + 1)), m, N⟩) : ACodeG pf P c K ⟨sl, m, N⟩ := fun hK ro w0 E D a hst => by
 have hr : Rep E (.s id 0 n) (a.tmps.getD t undef) := by rw [← ht]; exact hst.r t
 have hg := hst.g
 obtain ⟨q, q1, q2, q3, q4, q5⟩ := hg.held id _ hm
 simp only at q2 q3
 have hr2 := rep_viewC hg (ids := [id]) hr ⟨_, hm, by simp; omega, hp⟩ (fun j hj => by simpa [idsC] using hj)
 simp only [viewC, hm, List.drop_zero] at hr2
 have hsee := (hst.r)
 generalize hv : a.tmps.getD t undef = v at hr hr2
 cases hr with
 | s _ _ _ A cap hk hrel =>
 obtain ⟨g1, g2⟩ := hrel q q1
 obtain ⟨g3, g4⟩ := g2 (by omega)
 by_cases hc : cap = n
 · subst hc
   obtain ⟨w1, w2⟩ := hg.without [id]
   refine Code.wpIn_mono (fun _ _ _ ⟨E', s', a1, a2, a3, a4⟩ => ⟨E', s', a1, a2, w2.trans a3, a4⟩) (h1 (fun x s hx => hK x s hx) ro w0 (E.without [id]) D a ⟨w1, (hst.r.later w2).see (t := t) ?_, hst.n, hst.d⟩)
   rw [hv]
   have : Rep (E.without [id]) (.u sz xs) (.slice A xs.length xs.length) := .u sz xs A (by rw [hn] at hr2; exact hr2)
   rw [← hn] at this
   exact this
 · have hr3 : Rep E (.w id n (n + 1)) (.slice A n cap) := .w id n (n + 1) A cap hk fun q' hq' => by
    rw [q1] at hq'; cases hq'
    refine ⟨by omega, fun _ => ⟨by omega, by omega, by omega, ?_⟩⟩
    have := g4 (by omega)
    simpa using this
   exact h2 (fun x s hx => hK x s hx) ro w0 E D a ⟨hg, hst.r.see (t := t) (by rw [hv]; exact hr3), hst.n, hst.d⟩
end Go.Ab
namespace Go.Ab
open Go Go.RowKit
variable {pf : Value → Mem → Prop}
def staleC (k : Nat) : AV → AV
 | .c v => .c v
 | .l _ xs => .s k 0 xs.length
 | _ => .x
def staleA (k : Nat) : AV → AV
 | .g cs => .g (cs.map (staleC k))
 | a => staleC k a
def stale (k : Nat) : AV → AV
 | .t vs => .t (vs.map (staleA k))
 | a => staleA k a
def Mem.next (M : Mem) : Mem := ⟨M.l, M.k + 1⟩
def Env.next (E : Env) : Env := ⟨E.w, E.ad, E.k + 1, E.hid⟩
theorem Good.next {w0 : World} {E : Env} {M : Mem} (hg : Good w0 E M) : Good w0 E.next M.next ∧ Later E E.next ∧ E.next.ad M.k = none := by
 have hl : Later E E.next := ⟨fun b h => ⟨h, rfl⟩, Nat.le_succ _, fun i _ q hq => ⟨q, hq, Nat.le_refl _, fun _ => rfl, fun _ _ => ⟨rfl, rfl⟩⟩, rfl, fun _ _ => rfl⟩
 refine ⟨⟨hg.below, by show M.k + 1 = E.k + 1; rw [hg.k], fun id q hq => Nat.lt_succ_of_lt (hg.lt id q hq), hg.gone, fun i blk hi => ?_, hg.hid, hg.old, hg.inj⟩, hl, ?_⟩
 · obtain ⟨q, h1, h2, h3, h4, h5⟩ := hg.held i blk hi
   exact ⟨q, h1, h2, h3, h4, fun hcp => ⟨(h5 hcp).1, ((h5 hcp).2).later hl rfl⟩⟩
 · show E.ad M.k = none
   cases hq : E.ad M.k with
   | none => rfl
   | some q => have := hg.lt _ _ hq; have := hg.k; omega
theorem staleC_rep {E E' : Env} {k : Nat} {a : AV} {v : Value} (hr : Rep E a v) (hk : k < E'.k) (hn : E'.ad k = none) : Rep E' (staleC k a) v := by
 cases hr with
 | c v h => exact .c v h
 | l sz xs b off cap y hcap hz hs hc hr => exact .s _ _ _ _ _ hk fun q hq => by rw [hn] at hq; cases hq
 | l0 sz A cap => exact .s _ _ _ _ _ hk fun q hq => by rw [hn] at hq; cases hq
 | _ => exact .x _
theorem expC_stale {E E' : Env} {M : Mem} {k : Nat} {a b : AV} {ids fz : List Nat} {v : Value} (h : ExpC M a b ids fz) (hr : Rep E a v) (hk : k < E'.k) (hn : E'.ad k = none) : Rep E' (staleC k b) v := by
 have hpure : Weak1 a b → Rep E' (staleC k b) v := fun hw => staleC_rep (hw.rep hr) hk hn
 cases a with
 | s id off n =>
  cases b with
  | o T sz xs => exact .x _
  | l sz xs =>
   obtain ⟨rfl, rfl, blk, hM, hn', rfl, rfl, hp⟩ := h
   cases hr with
   | s _ _ _ A cap hk' hh =>
    have : (blk.xs.drop off).length = n := by rw [List.length_drop]; omega
    show Rep E' (.s k 0 (blk.xs.drop off).length) _
    rw [this]
    exact .s _ _ _ _ _ hk fun q hq => by rw [hn] at hq; cases hq
  | _ => exact hpure h.1
 | _ =>
  cases b with
  | o T sz xs => exact .x _
  | _ => exact hpure h.1
theorem expL_stale {E E' : Env} {M : Mem} {k : Nat} (hk : k < E'.k) (hn : E'.ad k = none) : ∀ {cs ds : List AV} {ids fz : List Nat} {vs : List Value}, ExpL M cs ds ids fz → vs.length = cs.length → (∀ i (h1 : i < cs.length) (h2 : i < vs.length), Rep E cs[i] vs[i]) →
 (ds.map (staleC k)).length = vs.length ∧ ∀ i (h1 : i < (ds.map (staleC k)).length) (h2 : i < vs.length), Rep E' (ds.map (staleC k))[i] vs[i]
 | [], [], ids, fz, [], h, hl, hr => ⟨rfl, fun i h1 => absurd h1 (by simp)⟩
 | [], [], ids, fz, _ :: _, h, hl, hr => by simp at hl
 | a :: r, b :: s, ids, fz, [], h, hl, hr => by simp at hl
 | a :: r, b :: s, ids, fz, v :: vs, h, hl, hr => by
  obtain ⟨i1, i2, f1, f2, rfl, rfl, h1, h2⟩ := h
  have k1 := expC_stale (E' := E') (k := k) h1 (hr 0 (by simp) (by simp)) hk hn
  obtain ⟨k2, k3⟩ := expL_stale hk hn h2 (by simpa using hl) (fun i g1 g2 => hr (i + 1) (by simpa using g1) (by simpa using g2))
  refine ⟨by simpa using k2, fun i g1 g2 => ?_⟩
  cases i with
  | zero => exact k1
  | succ i => exact k3 i (by simpa using g1) (by simpa using g2)
 | [], _ :: _, _, _, _, h, _, _ => h.elim
 | _ :: _, [], _, _, _, h, _, _ => h.elim
theorem expA_stale {E E' : Env} {M : Mem} {k : Nat} {a b : AV} {ids fz : List Nat} {v : Value} (h : ExpA M a b ids fz) (hr : Rep E a v) (hk : k < E'.k) (hn : E'.ad k = none) : Rep E' (staleA k b) v := by
 cases a with
 | g cs =>
  cases b with
  | g ds =>
   cases hr with
   | g _ ys hl hr =>
    obtain ⟨k2, k3⟩ := expL_stale hk hn (vs := ys.toList) h (by simpa using hl) (fun i h1 h2 => by simpa using hr i h1 (by simpa using h2))
    refine .g _ ys (by rw [k2]; simp) fun i h1 h2 => ?_
    have := k3 i h1 (by simpa using h2)
    rw [Array.getElem_toList] at this
    exact this
  | _ =>
   have := h
   simp only [ExpA, ExpC] at this
   obtain ⟨t1, _⟩ := this
   first | (cases t1.g; done) | (cases t1.t; done) | (cases t1.toG; done) | (cases t1.toT; done)
 | _ =>
  cases b with
  | g ds =>
   have := h
   simp only [ExpA, ExpC] at this
   obtain ⟨t1, _⟩ := this
   first | (cases t1.g; done) | (cases t1.t; done) | (cases t1.toG; done) | (cases t1.toT; done)
  | _ =>
   have h' := h
   simp only [ExpA] at h'
   exact expC_stale h' hr hk hn
theorem expLA_stale {E E' : Env} {M : Mem} {k : Nat} (hk : k < E'.k) (hn : E'.ad k = none) : ∀ {cs ds : List AV} {ids fz : List Nat} {vs : List Value}, ExpLA M cs ds ids fz → vs.length = cs.length → (∀ i (h1 : i < cs.length) (h2 : i < vs.length), Rep E cs[i] vs[i]) →
 (ds.map (staleA k)).length = vs.length ∧ ∀ i (h1 : i < (ds.map (staleA k)).length) (h2 : i < vs.length), Rep E' (ds.map (staleA k))[i] vs[i]
 | [], [], ids, fz, [], h, hl, hr => ⟨rfl, fun i h1 => absurd h1 (by simp)⟩
 | [], [], ids, fz, _ :: _, h, hl, hr => by simp at hl
 | a :: r, b :: s, ids, fz, [], h, hl, hr => by simp at hl
 | a :: r, b :: s, ids, fz, v :: vs, h, hl, hr => by
  obtain ⟨i1, i2, f1, f2, rfl, rfl, h1, h2⟩ := h
  have k1 := expA_stale (E' := E') (k := k) h1 (hr 0 (by simp) (by simp)) hk hn
  obtain ⟨k2, k3⟩ := expLA_stale hk hn h2 (by simpa using hl) (fun i g1 g2 => hr (i + 1) (by simpa using g1) (by simpa using g2))
  refine ⟨by simpa using k2, fun i g1 g2 => ?_⟩
  cases i with
  | zero => exact k1
  | succ i => exact k3 i (by simpa using g1) (by simpa using g2)
 | [], _ :: _, _, _, _, h, _, _ => h.elim
 | _ :: _, [], _, _, _, h, _, _ => h.elim
theorem expR_stale {E E' : Env} {M : Mem} {k : Nat} {a b : AV} {ids fz : List Nat} {v : Value} (h : ExpR M a b ids fz) (hr : Rep E a v) (hk : k < E'.k) (hn : E'.ad k = none) : Rep E' (stale k b) v := by
 cases a with
 | t cs =>
  cases b with
  | t ds =>
   cases hr with
   | t _ ys hl hr =>
    obtain ⟨k2, k3⟩ := expLA_stale hk hn (vs := ys.toList) h (by simpa using hl) (fun i h1 h2 => by simpa using hr i h1 (by simpa using h2))
    refine .t _ ys (by rw [k2]; simp) fun i h1 h2 => ?_
    have := k3 i h1 (by simpa using h2)
    rw [Array.getElem_toList] at this
    exact this
  | _ =>
   have := h
   simp only [ExpR, ExpA, ExpC] at this
   obtain ⟨t1, _⟩ := this
   first | (cases t1.g; done) | (cases t1.t; done) | (cases t1.toG; done) | (cases t1.toT; done)
 | _ =>
  cases b with
  | t ds =>
   have := h
   simp only [ExpR, ExpA, ExpC] at this
   obtain ⟨t1, _⟩ := this
   first | (cases t1.g; done) | (cases t1.t; done) | (cases t1.toG; done) | (cases t1.toT; done)
  | _ =>
   have h' := h
   simp only [ExpR] at h'
   exact expA_stale h' hr hk hn
theorem icall_peek {P : Program} {f : FuncId} {args args' : List AV} {M : Mem} {res : AV} {K : AV → Mem → Prop} (ids : List Nat) (h : PCallG pf P f args' res) (ha : Args M ids args args') (hK : K (stale M.k res) M.next) (hp : Indep pf := by exact fun _ _ _ h => h) : ICallG pf P f args M K := by
 refine ⟨h.1, fun w0 E vs hg hs hr => ?_⟩
 obtain ⟨hg1, hl1⟩ := hg.without ids
 refine Calls.mono' (h.2 E.w (E.without ids).callee vs (callee_good hg1) (by rw [hs, ha.len]) (callee_args hg ha hr)) ?_
 rintro e w' (⟨v, E', M', a, rfl, rfl, k1, k2, k3, IDS, FZ, k4, k5, k6⟩ | ⟨x, rfl, E', M', hx, rfl, k1, k2⟩)
 rotate_left
 · obtain ⟨g1, g2⟩ := Good.import hg k1 [] [] (by simp) rfl (fun j h1 => absurd h1 (by simp)) (fun b hb => by simp at hb)
   exact .inr ⟨x, rfl, E.import E' [], _, hp _ _ _ hx, rfl, g1, g2⟩
 obtain ⟨g1, g2⟩ := Good.import hg k1 [] [] (by simp) rfl (fun j h1 => absurd h1 (by simp)) (fun b hb => by simp at hb)
 obtain ⟨g3, g4, g5⟩ := g1.next
 have hkk : (M.adds []).k = M.k := rfl
 rw [hkk] at g5
 refine .inl ⟨v, (E.import E' []).next, _, _, rfl, rfl, g3, g2.trans g4, expR_stale (k := M.k) k4 k3 ?_ g5, hK⟩
 show M.k < E.k + 0 + 1
 rw [hg.k]; omega
end Go.Ab
