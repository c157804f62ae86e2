/- The later rules, as one. Ways that part, told at once; loops whose other .. -/
import Derived.Test.YtkikaagieknpdaaGreatAbG5
import Derived.Carry
import Derived.SizedLaws
set_option maxRecDepth 100000
namespace Go.Ab
open Go Go.RowKit
theorem wk4 :
  ((((type_of% @d4_nil) ∧ ((type_of% @d4_op) ∧ (type_of% @d4_opg))) ∧ (((type_of% @d4_p0) ∧ (type_of% @d4_p)) ∧ ((type_of% @d4_0) ∧ (type_of% @d4_1)))) ∧ ((((type_of% @d4_2) ∧
 (type_of% @d4_3)) ∧ ((type_of% @d4_p0') ∧ (type_of% @d4_p3))) ∧ (((type_of% @d4_alloc) ∧ (type_of% @d4_lit)) ∧ ((type_of% @resv.eq_1) ∧ (type_of% @resv.eq_2))))) ∧ (((((type_of%
 @Go.Ab.pdB.eq_1) ∧ (type_of% @ovP.eq_1)) ∧ ((type_of% @ovP.eq_2) ∧ (type_of% @r_goto))) ∧ (((type_of% @r_thenG) ∧ (type_of% @r_fwdN)) ∧ ((type_of% @r_fwdR) ∧ (type_of%
 @Go.Ab.r_fwdE)))) ∧ ((((type_of% @r_fwdG) ∧ (type_of% @r_backN)) ∧ ((type_of% @r_backR) ∧ (type_of% @r_backE))) ∧ (((type_of% @r_backG) ∧ (type_of% @r_blockG)) ∧ ((type_of%
 @List.flatMap_cons.{0, 0}) ∧ (type_of% @List.flatMap_nil.{0, 0}))))) :=
⟨⟨⟨⟨@Go.Ab.d4_nil, ⟨@Go.Ab.d4_op, @Go.Ab.d4_opg⟩⟩, ⟨⟨@Go.Ab.d4_p0, @Go.Ab.d4_p⟩, ⟨@Go.Ab.d4_0, @Go.Ab.d4_1⟩⟩⟩, ⟨⟨⟨@Go.Ab.d4_2, @Go.Ab.d4_3⟩, ⟨@Go.Ab.d4_p0', @Go.Ab.d4_p3⟩⟩, ⟨⟨@Go.Ab.d4_alloc, @Go.Ab.d4_lit⟩,
 ⟨@Go.Ab.resv.eq_1, @Go.Ab.resv.eq_2⟩⟩⟩⟩, ⟨⟨⟨⟨@Go.Ab.pdB.eq_1, @Go.Ab.ovP.eq_1⟩, ⟨@Go.Ab.ovP.eq_2, @Go.Ab.r_goto⟩⟩, ⟨⟨@Go.Ab.r_thenG, @Go.Ab.r_fwdN⟩, ⟨@Go.Ab.r_fwdR, @Go.Ab.r_fwdE⟩⟩⟩, ⟨⟨⟨@Go.Ab.r_fwdG, @Go.Ab.r_backN⟩,
 ⟨@Go.Ab.r_backR, @Go.Ab.r_backE⟩⟩, ⟨⟨@Go.Ab.r_backG, @Go.Ab.r_blockG⟩, ⟨@List.flatMap_cons.{0, 0}, @List.flatMap_nil.{0, 0}⟩⟩⟩⟩⟩
end Go.Ab
set_option linter.unusedVariables false
set_option linter.constructorNameAsVariable false
set_option linter.unusedSimpArgs false
namespace Go.Ab
open Go Go.RowKit
variable {pf : Value → Mem → Prop}
section
variable {p : Prop} [Decidable p] {b : Bool} {y n : ASt → Prop} {s : ASt} {w : Bool}
theorem r_casesD (h1 : p → decide p = true → condS (.c (.bool (decide p))) y n s) (h2 : ¬ p → decide p = false → condS (.c (.bool (decide p))) y n s) : condS (.c (.bool (decide p))) y n s := by
 by_cases h : p
 · exact h1 h (decide_eq_true h)
 · exact h2 h (decide_eq_false h)
theorem r_casesN (h1 : p → decide p = true → condS (.c (.bool (!decide p))) y n s) (h2 : ¬ p → decide p = false → condS (.c (.bool (!decide p))) y n s) : condS (.c (.bool (!decide p))) y n s := by
 by_cases h : p
 · exact h1 h (decide_eq_true h)
 · exact h2 h (decide_eq_false h)
theorem r_casesB (h1 : b = true → b = true → condS (.c (.bool b)) y n s) (h2 : b = false → b = false → condS (.c (.bool b)) y n s) : condS (.c (.bool b)) y n s := by
 cases h : b
 · have := h2 h h; rwa [h] at this
 · have := h1 h h; rwa [h] at this
theorem r_casesM (h1 : b = true → b = true → condS (.c (.bool (!b))) y n s) (h2 : b = false → b = false → condS (.c (.bool (!b))) y n s) : condS (.c (.bool (!b))) y n s := by
 cases h : b
 · have := h2 h h; rwa [h] at this
 · have := h1 h h; rwa [h] at this
theorem r_gcasesD (h1 : p → decide p = true → gB (.c (.bool (decide p))) w y n s) (h2 : ¬ p → decide p = false → gB (.c (.bool (decide p))) w y n s) : gB (.c (.bool (decide p))) w y n s := by
 by_cases h : p
 · exact h1 h (decide_eq_true h)
 · exact h2 h (decide_eq_false h)
theorem r_gcasesN (h1 : p → decide p = true → gB (.c (.bool (!decide p))) w y n s) (h2 : ¬ p → decide p = false → gB (.c (.bool (!decide p))) w y n s) : gB (.c (.bool (!decide p))) w y n s := by
 by_cases h : p
 · exact h1 h (decide_eq_true h)
 · exact h2 h (decide_eq_false h)
theorem r_gcasesB (h1 : b = true → b = true → gB (.c (.bool b)) w y n s) (h2 : b = false → b = false → gB (.c (.bool b)) w y n s) : gB (.c (.bool b)) w y n s := by
 cases h : b
 · have := h2 h h; rwa [h] at this
 · have := h1 h h; rwa [h] at this
theorem r_gcasesM (h1 : b = true → b = true → gB (.c (.bool (!b))) w y n s) (h2 : b = false → b = false → gB (.c (.bool (!b))) w y n s) : gB (.c (.bool (!b))) w y n s := by
 cases h : b
 · have := h2 h h; rwa [h] at this
 · have := h1 h h; rwa [h] at this
end
def keepS (sl : Slots) : List Nat → Slots
 | [] => []
 | t :: r => (t, Slots.get sl t) :: keepS sl r
def laidS (base : Slots) : Slots → Slots
 | [] => base
 | (t, a) :: r => insert (laidS base r) t a
theorem loop_ruleM {P : Program} {tab : Tab} (hT : TabOk P tab) (keep : List Nat) {c : Code} {K : Exit → ASt → Prop} {s : ASt} {α : Type} (ch : α → Slots) (mem : α → Mem) (G : α → Prop) (μ : α → Nat) (x0 : α) (h0 : G x0) (hk : ∀ y, (mem y).k = s.m.k)
 (hs : Fits s ⟨laidS (keepS s.sl keep) (ch x0), mem x0, s.N⟩)
 (round : ∀ y, G y → awG pf P tab c (thenK (fun s' => ∃ y', G y' ∧ μ y' < μ y ∧ Fits s' ⟨laidS (keepS s.sl keep) (ch y'), mem y', s.N⟩) K) ⟨laidS (keepS s.sl keep) (ch y), mem y, s.N⟩) : ACodeG pf P (.loop c) K s :=
 loop_rule hT (fun y => ⟨laidS (keepS s.sl keep) (ch y), mem y, s.N⟩) G μ x0 h0 hs hk round
theorem loop_ruleG {P : Program} {tab : Tab} (hT : TabOk P tab) (keep : List Nat) {c : Code} {K : Exit → ASt → Prop} {s : ASt} {α : Type} (ch : α → Slots) (mem : α → Mem) (G : α → Prop) (μ : α → Nat) (x0 : α) (h0 : G x0) (hk : ∀ y, s.m.k ≤ (mem y).k)
 (hs : Fits s ⟨laidS (keepS s.sl keep) (ch x0), mem x0, s.N⟩)
 (round : ∀ y, G y → awG pf P tab c (thenK (fun s' => ∃ y', G y' ∧ μ y' < μ y ∧ Fits s' ⟨laidS (keepS s.sl keep) (ch y'), mem y', s.N⟩) K) ⟨laidS (keepS s.sl keep) (ch y), mem y, s.N⟩) : ACodeG pf P (.loop c) K s :=
 loop_rule' hT (fun y => ⟨laidS (keepS s.sl keep) (ch y), mem y, s.N⟩) G μ x0 h0 hs hk round
theorem loop_ruleC {P : Program} {tab : Tab} (hT : TabOk P tab) (keep : List Nat) {c : Code} {K : Exit → ASt → Prop} {s : ASt} {α : Type} (ch : α → Slots) (G : α → Prop) (μ : α → Nat) (x0 : α) (h0 : G x0)
 (hs : Fits s ⟨laidS (keepS s.sl keep) (ch x0), s.m, s.N⟩)
 (round : ∀ y, G y → awG pf P tab c (thenK (fun s' => ∃ y', G y' ∧ μ y' < μ y ∧ Fits s' ⟨laidS (keepS s.sl keep) (ch y'), s.m, s.N⟩) K) ⟨laidS (keepS s.sl keep) (ch y), s.m, s.N⟩) : ACodeG pf P (.loop c) K s :=
 loop_rule hT (fun y => ⟨laidS (keepS s.sl keep) (ch y), s.m, s.N⟩) G μ x0 h0 hs (fun _ => rfl) round
theorem elem_map {α : Type} {enc : α → AV} (d : α) {l : List α} {i : Nat} {K : AV → Prop} : Elem (l.map enc) i K = (i < l.length ∧ K (enc (l.getD i d))) := by
 simp only [Elem, List.length_map, List.getElem_map, eq_iff_iff]
 constructor
 · rintro ⟨h, k⟩
   refine ⟨h, ?_⟩
   rw [List.getD_eq_getElem?_getD, List.getElem?_eq_getElem h]; exact k
 · rintro ⟨h, k⟩
   refine ⟨h, ?_⟩
   rw [List.getD_eq_getElem?_getD, List.getElem?_eq_getElem h] at k; exact k
theorem underL_map {α : Type} {enc : α → AV} (k : Nat) (h : ∀ a, ∀ x ∈ (enc a).cells, Under k x) (l : List α) : UnderL k (l.map enc) := by
 induction l with
 | nil => rw [List.map_nil, underL_nil]; trivial
 | cons a l ih => rw [List.map_cons, underL_cons]; exact ⟨h a, ih⟩
theorem int_wrap {n : Int} (h : -9223372036854775808 ≤ n) (h2 : n < 9223372036854775808) : IntKind.i64.wrap n = n := wrap_i64 h h2
theorem int_add {a b : Int} (h1 : -9223372036854775808 ≤ a + b) (h2 : a + b < 9223372036854775808) : IntKind.i64.wrap (a + b) = a + b := by rw [IntKind.wrap_i64]; omega
theorem exp_bF {M : Mem} {p : Prop} [Decidable p] (h : ¬ p) : Exp M (.c (.bool false)) (.c (.bool (decide p))) := exp_b (decide_eq_false h).symm
theorem exp_bT {M : Mem} {p : Prop} [Decidable p] (h : p) : Exp M (.c (.bool true)) (.c (.bool (decide p))) := exp_b (decide_eq_true h).symm
theorem exp_bE {M : Mem} {p q : Prop} [Decidable p] [Decidable q] (h : q ↔ p) : Exp M (.c (.bool (decide q))) (.c (.bool (decide p))) := exp_b (decide_eq_decide.2 h)
theorem exp_i {M : Mem} {k : IntKind} {a b : Int} (h : a = b) : Exp M (.c (.int k a)) (.c (.int k b)) := h ▸ exp_c
end Go.Ab
namespace Go.Ab
open Go Go.RowKit
variable {pf : Value → Mem → Prop}
def Bs (l : List UInt8) : AV := .l 1 (l.map encB)
theorem under_Bs {k : Nat} {l : List UInt8} : Under k (Bs l) = True := by rw [Bs, under_l, underL_B]
theorem cells_Bs {l : List UInt8} : (Bs l).cells = [Bs l] := rfl
theorem underL_Bs {k : Nat} {ls : List (List UInt8)} : UnderL k (ls.map Bs) = True := by
 induction ls with
 | nil => simp [underL_nil]
 | cons a l ih => simp only [List.map_cons, underL_cons, ih, cells_Bs, List.mem_singleton, forall_eq, under_Bs, and_self]
theorem exp_sl {M : Mem} {id n : Nat} {T : TypeId} {sz : Nat} {xs : List AV} (h : M.get id = some ⟨T, sz, xs⟩) (hn : n = xs.length) (hp : PureL xs) : Exp M (.s id 0 n) (.l sz xs) :=
 ⟨[], [id], ⟨rfl, rfl, _, h, by simpa using hn, rfl, by simp, hp⟩, by simp, by simp⟩
theorem exp_slB {M : Mem} {id n : Nat} {T : TypeId} {xs : List AV} {l : List UInt8} (h : M.get id = some ⟨T, 1, xs⟩) (hx : xs = l.map encB) (hn : n = l.length) : Exp M (.s id 0 n) (.l 1 (l.map encB)) := by
 subst hx
 exact exp_sl h (by rw [List.length_map]; exact hn) (pureB _)
theorem okR_Bs {l : List UInt8} : OkR (Under 0) (Bs l) := (under_Bs (k := 0) (l := l)).mpr trivial
theorem okR_nil {k sz : Nat} : Under k (.l sz []) := .l _ _ fun i h => absurd h (by simp)
def ResL : List AV → List AV → Prop
 | [], [] => True
 | a :: r, b :: s => Weak1 a b ∧ Under 0 b ∧ ResL r s
 | _, _ => False
theorem ResL.weak : ∀ {l m : List AV}, ResL l m → WeakL l m ∧ ∀ i (h : i < m.length), Under 0 m[i]
 | [], [], _ => ⟨trivial, fun i h => absurd h (by simp)⟩
 | a :: r, b :: s, h => ⟨⟨h.1, h.2.2.weak.1⟩, fun i hi => match i, hi with
  | 0, _ => h.2.1
  | i + 1, hi => h.2.2.weak.2 i (by simpa using hi)⟩
 | [], _ :: _, h => h.elim
 | _ :: _, [], h => h.elim
def ArgC (M : Mem) (ids : List Nat) (a b : AV) : Prop := VOkC M a ∧ (∀ i ∈ idsC a, i ∈ ids) ∧ Weak1 (viewC M a) b ∧ Under 0 b
def ArgCL (M : Mem) (ids : List Nat) : List AV → List AV → Prop
 | [], [] => True
 | a :: r, b :: s => ArgC M ids a b ∧ ArgCL M ids r s
 | _, _ => False
theorem ArgCL.all {M : Mem} {ids : List Nat} : ∀ {l m : List AV}, ArgCL M ids l m → AllV M l ∧ (∀ i ∈ l.flatMap idsC, i ∈ ids) ∧ WeakL (l.map (viewC M)) m ∧ ∀ i (h : i < m.length), Under 0 m[i]
 | [], [], _ => ⟨trivial, fun i h => by simp at h, trivial, fun i h => absurd h (by simp)⟩
 | a :: r, b :: s, h => by
  obtain ⟨g1, g2, g3, g4⟩ := h.2.all
  refine ⟨⟨h.1.1, g1⟩, fun i hi => ?_, ⟨h.1.2.2.1, g3⟩, fun i hi => match i, hi with
   | 0, _ => h.1.2.2.2
   | i + 1, hi => g4 i (by simpa using hi)⟩
  rw [List.flatMap_cons, List.mem_append] at hi
  exact hi.elim (h.1.2.1 i) (g2 i)
 | [], _ :: _, h => h.elim
 | _ :: _, [], h => h.elim
theorem arg_gL {M : Mem} {ids : List Nat} {l m : List AV} (h : ArgCL M ids l m) : VOkA M (.g l) ∧ (∀ k ∈ idsA (.g l), k ∈ ids) ∧ Weak (viewA M (.g l)) (.g m) ∧ Under 0 (.g m) :=
 ⟨h.all.1, h.all.2.1, by show WeakL _ _; exact h.all.2.2.1, .g m h.all.2.2.2⟩
theorem argC_c {M : Mem} {ids : List Nat} {v : Value} : ArgC M ids (.c v) (.c v) := ⟨trivial, (fun i h => by simp [idsC] at h), .refl _, .c _⟩
theorem argC_l {M : Mem} {ids : List Nat} {sz : Nat} {xs : List AV} (h : PureL xs) : ArgC M ids (.l sz xs) (.l sz xs) := ⟨trivial, (fun i h => by simp [idsC] at h), .refl _, .l _ _ h⟩
theorem argC_I {M : Mem} {ids : List Nat} {l : List Int} : ArgC M ids (.l 1 (l.map encI)) (.l 1 (l.map encI)) := argC_l (pureI _)
theorem argC_nil {M : Mem} {ids : List Nat} {sz : Nat} : ArgC M ids (.c (.slice none 0 0)) (.l sz []) := ⟨trivial, (fun i h => by simp [idsC] at h), trivial, okR_nil⟩
theorem argC_own {M : Mem} {ids : List Nat} {id n sz : Nat} {T : TypeId} {xs : List AV} (hi : id ∈ ids) (h : M.get id = some ⟨T, sz, xs⟩) (hn : n = xs.length) (hp : PureL xs) : ArgC M ids (.s id 0 n) (.l sz xs) :=
 ⟨⟨_, h, by simpa using hn, hp⟩, (fun i h => by simp only [idsC, List.mem_singleton] at h; exact h ▸ hi), by simp only [viewC, h, List.drop_zero]; exact .refl _, .l _ _ hp⟩
theorem arg_pure {M : Mem} {ids : List Nat} {cs : List AV} (h : ArgCL M ids cs cs) : VOkA M (.g cs) ∧ (∀ k ∈ idsA (.g cs), k ∈ ids) ∧ Weak (viewA M (.g cs)) (.g cs) ∧ Under 0 (.g cs) := arg_gL h
theorem arg_e {M : Mem} {ids : List Nat} {cs : List AV} (h : ∀ a ∈ cs, Under 0 a) : VOkA M (.e cs) ∧ (∀ k ∈ idsA (.e cs), k ∈ ids) ∧ Weak (viewA M (.e cs)) (.e cs) ∧ Under 0 (.e cs) :=
 ⟨trivial, (fun i h => by simp [idsA, idsC] at h), by unfold Weak; exact .refl _, .e _ fun i hi => h _ (List.getElem_mem hi)⟩
theorem xC_pure {M : Mem} {a b : AV} (h : Weak1 a b) (hu : Under 0 b) : ∃ f, ExpC M a b [] f := ⟨[], expC_pure h hu⟩
theorem xC_frz {M : Mem} {id off n sz : Nat} {T : TypeId} {xs ys : List AV} (h : M.get id = some ⟨T, sz, ys⟩) (hn : off + n = ys.length) (hd : ys.drop off = xs) (hp : PureL ys) : ∃ f, ExpC M (.s id off n) (.l sz xs) [] f :=
 ⟨[id], rfl, rfl, _, h, hn, rfl, hd, hp⟩
theorem xL_nil {M : Mem} : ∃ f, ExpL M [] [] [] f := ⟨[], rfl, rfl⟩
theorem xL_cons {M : Mem} {a b : AV} {r s : List AV} (h1 : ∃ f, ExpC M a b [] f) (h2 : ∃ f, ExpL M r s [] f) : ∃ f, ExpL M (a :: r) (b :: s) [] f :=
 let ⟨f1, k1⟩ := h1
 let ⟨f2, k2⟩ := h2
 ⟨f1 ++ f2, [], [], f1, f2, rfl, rfl, k1, k2⟩
theorem xA_g {M : Mem} {cs ds : List AV} (h : ∃ f, ExpL M cs ds [] f) : ∃ f, ExpA M (.g cs) (.g ds) [] f := h
theorem xA_pure {M : Mem} {a b : AV} (h : Weak a b) (hu : Under 0 b) : ∃ f, ExpA M a b [] f := ⟨[], expA_pure h hu⟩
theorem xA_frz {M : Mem} {id off n sz : Nat} {T : TypeId} {xs ys : List AV} (h : M.get id = some ⟨T, sz, ys⟩) (hn : off + n = ys.length) (hd : ys.drop off = xs) (hp : PureL ys) : ∃ f, ExpA M (.s id off n) (.l sz xs) [] f := xC_frz h hn hd hp
theorem xA_c {M : Mem} {v : Value} : ∃ f, ExpA M (.c v) (.c v) [] f := xA_pure weak_c (.c _)
theorem xA_nil {M : Mem} {sz : Nat} : ∃ f, ExpA M (.c (.slice none 0 0)) (.l sz []) [] f := xA_pure weak_nil okR_nil
theorem xT_nil {M : Mem} : ∃ f, ExpLA M [] [] [] f := ⟨[], rfl, rfl⟩
theorem xT_cons {M : Mem} {a b : AV} {r s : List AV} (h1 : ∃ f, ExpA M a b [] f) (h2 : ∃ f, ExpLA M r s [] f) : ∃ f, ExpLA M (a :: r) (b :: s) [] f :=
 let ⟨f1, k1⟩ := h1
 let ⟨f2, k2⟩ := h2
 ⟨f1 ++ f2, [], [], f1, f2, rfl, rfl, k1, k2⟩
theorem exp_tA {M : Mem} {l m : List AV} (h : ∃ f, ExpLA M l m [] f) : Exp M (.t l) (.t m) := let ⟨f, k⟩ := h; ⟨[], f, k, by simp, by simp⟩
theorem exp_frz {M : Mem} {id off n sz : Nat} {T : TypeId} {xs ys : List AV} (h : M.get id = some ⟨T, sz, ys⟩) (hn : off + n = ys.length) (hd : ys.drop off = xs) (hp : PureL ys) : Exp M (.s id off n) (.l sz xs) :=
 ⟨[], [id], ⟨rfl, rfl, _, h, hn, rfl, hd, hp⟩, by simp, by simp⟩
theorem under_e {k : Nat} {cs : List AV} : Under k (.e cs) = ∀ a ∈ cs, Under k a := propext ⟨fun h => by
 cases h with | e _ h =>
 intro a ha
 obtain ⟨i, hi, rfl⟩ := List.getElem_of_mem ha
 exact h i hi, fun h => .e _ fun i hi => h _ (List.getElem_mem hi)⟩
theorem under_f {k : Nat} {fn : FuncId} {cs : List AV} : Under k (.f fn cs) = ∀ a ∈ cs, Under k a := propext ⟨fun h => by
 cases h with | f _ _ h =>
 intro a ha
 obtain ⟨i, hi, rfl⟩ := List.getElem_of_mem ha
 exact h i hi, fun h => .f _ _ fun i hi => h _ (List.getElem_mem hi)⟩
theorem under_b {k : Nat} {fn : FuncId} {cs : List AV} : Under k (.b fn cs) = ∀ a ∈ cs, Under k a := propext ⟨fun h => by
 cases h with | b _ _ h =>
 intro a ha
 obtain ⟨i, hi, rfl⟩ := List.getElem_of_mem ha
 exact h i hi, fun h => .b _ _ fun i hi => h _ (List.getElem_mem hi)⟩
section
variable {P : Program} {tab : Tab} {K : ASt → Prop} {dst : Option Tmp} {sl : Slots} {m M' : Mem} {N : Nat} {r : AV} {fn : FuncId} {caps : List AV} {t : Tmp} {as : Array Operand} {ts : Array TypeId}
theorem d_heavyV (hf : Slots.get sl t = .f fn caps) (h1 : ICallG pf P fn (as.toList.map (ev sl) ++ caps) m (fun a M2 => a = r ∧ M2 = M')) (h2 : setT sl N K dst r M') : stepS pf P tab 1 K dst (.call ⟨.value (.tmp t), as, ts⟩) ⟨sl, m, N⟩ :=
 d_heavy (by
  show callValK pf P m (as.toList.map fun o => ev sl o) _ (ev sl (.tmp t))
  show callValK pf P m (as.toList.map fun o => ev sl o) _ (Slots.get sl t)
  rw [hf]; exact h1) h2
end
def isum (f : Nat → Int) : Nat → Int
 | 0 => 0
 | k + 1 => isum f k + f k
theorem isum_congr {f g : Nat → Int} : ∀ {k : Nat}, (∀ j, j < k → f j = g j) → isum f k = isum g k
 | 0, _ => rfl
 | k + 1, h => by
  simp only [isum]
  rw [isum_congr fun j hj => h j (by omega), h k (by omega)]
theorem isum_bnd {f : Nat → Int} {lo hi : Int} : ∀ {k : Nat}, (∀ j, j < k → lo ≤ f j ∧ f j ≤ hi) → k * lo ≤ isum f k ∧ isum f k ≤ k * hi
 | 0, _ => by simp [isum]
 | k + 1, h => by
  have h1 := isum_bnd (f := f) (k := k) fun j hj => h j (by omega)
  have h2 := h k (by omega)
  simp only [isum, Int.natCast_add, Int.add_mul, Int.natCast_one, Int.one_mul]
  omega
theorem isum_nn {f : Nat → Int} {k : Nat} (h : ∀ j, j < k → 0 ≤ f j) : 0 ≤ isum f k := by
 induction k with
 | zero => simp [isum]
 | succ k ih => simp only [isum]; have := ih fun j hj => h j (by omega); have := h k (by omega); omega
theorem isum_sub (f g : Nat → Int) : ∀ k : Nat, isum (fun j => f j - g j) k = isum f k - isum g k
 | 0 => rfl
 | k + 1 => by simp only [isum, isum_sub f g k]; omega
theorem isum_zero : ∀ k : Nat, isum (fun _ => 0) k = 0
 | 0 => rfl
 | k + 1 => by simp only [isum, isum_zero k]; omega
theorem isum_mono {f : Nat → Int} (h : ∀ j, 0 ≤ f j) {k m : Nat} (hkm : k ≤ m) : isum f k ≤ isum f m := by
  induction m with
  | zero => have : k = 0 := by omega
            subst this; exact Int.le_refl _
  | succ m ih =>
    by_cases e : k = m + 1
    · subst e; exact Int.le_refl _
    · have := ih (by omega)
      have := h m
      simp only [isum]; omega
theorem isum_getD : ∀ (o : List Int), isum (fun j => o.getD j 0) o.length = o.sum := by
 have key : ∀ (o : List Int) k, k ≤ o.length → isum (fun j => o.getD j 0) k = (o.take k).sum := by
  intro o k
  induction k with
  | zero => intro _; simp [isum]
  | succ k ih =>
   intro h
   simp only [isum]
   rw [ih (by omega), List.take_add_one, List.getElem?_eq_getElem (by omega), List.getD_eq_getElem?_getD, List.getElem?_eq_getElem (by omega), List.sum_append]
   simp
 intro o
 rw [key o o.length (Nat.le_refl _), List.take_length]
end Go.Ab
namespace Go.Ab
open Go Go.RowKit
variable {pf : Value → Mem → Prop}
def frzR (M : Mem) (id : Nat) : AV → AV
 | .t vs => .t (vs.map (frzE M id))
 | a => frzE M id a
def FOkR (M : Mem) (id : Nat) : AV → Prop
 | .t vs => ∀ v ∈ vs, FOkE M id v
 | a => FOkE M id a
theorem rep_frzR {w0 : World} {E : Env} {M : Mem} (hg : Good w0 E M) {id : Nat} {a : AV} {v : Value} (hr : Rep E a v) (ho : FOkR M id a) : Rep (E.without [id]) (frzR M id a) v := by
 cases a with
 | t vs =>
  cases hr with
  | t _ ys h hr =>
   refine .t _ ys (by simpa using h) (fun i h1 h2 => ?_)
   simp only [List.getElem_map]
   exact rep_frzE hg (hr i (by simpa using h1) h2) (ho _ (List.getElem_mem _))
 | _ => exact rep_frzE hg hr ho
inductive FzR (K : AV → Mem → Prop) : AV → Mem → Prop
 | done {a : AV} {M : Mem} (h : K a M) : FzR K a M
 | step {a : AV} {M : Mem} (id : Nat) (hb : BOk M id (remove M.l id)) (ha : FOkR M id a) (h : FzR K (frzR M id a) ⟨mapB (frzE M id) (remove M.l id), M.k⟩) : FzR K a M
theorem FzR.out {K : AV → Mem → Prop} {w0 : World} {v : Value} {a : AV} {M : Mem} (h : FzR K a M) : ∀ {E0 E : Env}, Good w0 E M → Later E0 E → Rep E a v → ∃ E' M' a', E'.w = E.w ∧ Good w0 E' M' ∧ Later E0 E' ∧ Rep E' a' v ∧ K a' M' := by
 induction h with
 | done h => exact fun hg hl hr => ⟨_, _, _, rfl, hg, hl, hr, h⟩
 | step id hb ha h ih =>
  intro E0 E hg hl hr
  obtain ⟨E', M', a', h1, h2⟩ := ih (hg.freeze hb) (hl.trans (hg.without [id]).2) (rep_frzR hg hr ha)
  exact ⟨E', M', a', h1, h2⟩
theorem ICall.frz {P : Program} {f : FuncId} {args : List AV} {M : Mem} {K : AV → Mem → Prop} (h : ICallG pf P f args M (FzR K)) : ICallG pf P f args M K :=
 ⟨h.1, fun w0 E vs h1 h2 h3 => Calls.mono' (h.2 w0 E vs h1 h2 h3) fun _ _ hp => hp.imp (fun ⟨v, E', M', a, e1, e2, e3, e4, e5, e6⟩ =>
  let ⟨E2, M2, a2, k1, k2, k3, k4, k5⟩ := e6.out e3 e4 e5
  ⟨v, E2, M2, a2, e1, k1.trans e2, k2, k3, k4, k5⟩) id⟩
theorem frz_data {M : Mem} {id : Nat} {xs : List AV} (h : ∀ x ∈ xs, frzE M id x = x) : xs.map (frzE M id) = xs := by
 rw [List.map_congr_left (g := fun x => x) h, List.map_id']
end Go.Ab
namespace Go.Ab
open Go Go.RowKit
variable {pf : Value → Mem → Prop}
def rnI (ids : List Nat) (k : Nat) (i : Nat) : Nat := bif Nat.blt i ids.length then ids.getD i 0 else k + (i - ids.length)
def rn0 (f : Nat → Nat) : AV → AV
 | .p id i j n => .p (f id) i j n
 | .s id off n => .s (f id) off n
 | a => a
def rnC (f : Nat → Nat) : AV → AV
 | .f fn caps => .f fn (caps.map (rn0 f))
 | a => rn0 f a
def rnE (f : Nat → Nat) : AV → AV
 | .g cs => .g (cs.map (rnC f))
 | a => rnC f a
def rnR (f : Nat → Nat) : AV → AV
 | .t vs => .t (vs.map (rnE f))
 | a => rnE f a
def Hd0 (n : Nat) : AV → Prop
 | .p id _ _ _ => id < n
 | .s id _ _ => id < n
 | .g _ => False
 | .t _ => False
 | a => Under 0 a
def HdC (n : Nat) : AV → Prop
 | .f _ caps => ∀ c ∈ caps, Hd0 n c
 | a => Hd0 n a
def HdE (n : Nat) : AV → Prop
 | .g cs => ∀ c ∈ cs, HdC n c
 | a => HdC n a
def HdR (n : Nat) : AV → Prop
 | .t vs => ∀ v ∈ vs, HdE n v
 | a => HdE n a
def rnB (f : Nat → Nat) (b : Blk) : Blk := ⟨b.T, b.sz, b.xs.map (rnE f)⟩
theorem rnE_cells {f : Nat → Nat} (a : AV) : (rnE f a).cells = a.cells.map (rnC f) := by
 cases a <;> rfl
theorem HdE.cells {n : Nat} {a : AV} (h : HdE n a) : ∀ c ∈ a.cells, HdC n c := by
 cases a with
 | g cs => exact h
 | _ => intro c hc; simp only [AV.cells, List.mem_singleton] at hc; subst hc; exact h
section
variable {E E' : Env} {f : Nat → Nat} {n : Nat}
theorem rn0_rep (hz : ∀ b, E.Z b → E'.Z b ∧ E'.w.heap[b]? = E.w.heap[b]?) (hf : ∀ i, i < n → i < E.k → f i < E'.k ∧ E'.ad (f i) = E.ad i) {a : AV} {v : Value} (hr : Rep E a v) (ho : Hd0 n a) : Rep E' (rn0 f a) v := by
 cases hr with
 | p id i j m a hk h =>
  obtain ⟨h1, h2⟩ := hf id ho hk
  exact .p _ i j m a h1 (by rw [h2]; exact h)
 | s id off m A cap hk h =>
  obtain ⟨h1, h2⟩ := hf id ho hk
  exact .s _ off m A cap h1 (by rw [h2]; exact h)
 | c v h => exact .c v h
 | x v => exact .x v
 | g cs ys h hr => exact ho.elim
 | t cs ys h hr => exact ho.elim
 | f fn caps ys h hr => exact (Rep.f fn caps ys h hr).pure hz ho
 | b fn caps ys h hr => exact (Rep.b fn caps ys h hr).pure hz ho
 | u => cases ho
 | w => cases ho
 | l sz xs b off cap y hcap hz0 hs hc hr => exact (Rep.l sz xs b off cap y hcap hz0 hs hc hr).pure hz ho
 | l0 sz A cap => exact .l0 sz A cap
 | e cs b off y hz0 hc hr => exact (Rep.e cs b off y hz0 hc hr).pure hz ho
theorem rnC_rep (hz : ∀ b, E.Z b → E'.Z b ∧ E'.w.heap[b]? = E.w.heap[b]?) (hf : ∀ i, i < n → i < E.k → f i < E'.k ∧ E'.ad (f i) = E.ad i) {a : AV} {v : Value} (hr : Rep E a v) (ho : HdC n a) : Rep E' (rnC f a) v := by
 cases a with
 | f fn caps =>
  cases hr with
  | f _ _ ys h hr =>
   refine .f _ _ ys (by simpa using h) (fun i h1 h2 => ?_)
   simp only [List.getElem_map]
   exact rn0_rep hz hf (hr i (by simpa using h1) h2) (ho _ (List.getElem_mem _))
 | _ => exact rn0_rep hz hf hr ho
theorem rnE_rep (hz : ∀ b, E.Z b → E'.Z b ∧ E'.w.heap[b]? = E.w.heap[b]?) (hf : ∀ i, i < n → i < E.k → f i < E'.k ∧ E'.ad (f i) = E.ad i) {a : AV} {v : Value} (hr : Rep E a v) (ho : HdE n a) : Rep E' (rnE f a) v := by
 cases a with
 | g cs =>
  cases hr with
  | g _ ys h hr =>
   refine .g _ ys (by simpa using h) (fun i h1 h2 => ?_)
   simp only [List.getElem_map]
   exact rnC_rep hz hf (hr i (by simpa using h1) h2) (ho _ (List.getElem_mem _))
 | _ => exact rnC_rep hz hf hr ho
theorem rnR_rep (hz : ∀ b, E.Z b → E'.Z b ∧ E'.w.heap[b]? = E.w.heap[b]?) (hf : ∀ i, i < n → i < E.k → f i < E'.k ∧ E'.ad (f i) = E.ad i) {a : AV} {v : Value} (hr : Rep E a v) (ho : HdR n a) : Rep E' (rnR f a) v := by
 cases a with
 | t vs =>
  cases hr with
  | t _ ys h hr =>
   refine .t _ ys (by simpa using h) (fun i h1 h2 => ?_)
   simp only [List.getElem_map]
   exact rnE_rep hz hf (hr i (by simpa using h1) h2) (ho _ (List.getElem_mem _))
 | _ => exact rnE_rep hz hf hr ho
theorem nr0_rep (hz : ∀ b, E.Z b → E'.Z b ∧ E'.w.heap[b]? = E.w.heap[b]?) (hf : ∀ i, i < n → f i < E.k → i < E'.k ∧ E'.ad i = E.ad (f i)) {a : AV} {v : Value} (hr : Rep E (rn0 f a) v) (ho : Hd0 n a) : Rep E' a v := by
 cases a with
 | p id i j m =>
  simp only [rn0] at hr
  cases hr with | p _ _ _ _ A hk h =>
  obtain ⟨h1, h2⟩ := hf id ho hk
  exact .p _ i j m A h1 (by rw [h2]; exact h)
 | s id off m =>
  simp only [rn0] at hr
  cases hr with | s _ _ _ A cap hk h =>
  obtain ⟨h1, h2⟩ := hf id ho hk
  exact .s _ off m A cap h1 (by rw [h2]; exact h)
 | g cs => exact ho.elim
 | t cs => exact ho.elim
 | _ => exact Rep.pure hz hr ho
theorem nrC_rep (hz : ∀ b, E.Z b → E'.Z b ∧ E'.w.heap[b]? = E.w.heap[b]?) (hf : ∀ i, i < n → f i < E.k → i < E'.k ∧ E'.ad i = E.ad (f i)) {a : AV} {v : Value} (hr : Rep E (rnC f a) v) (ho : HdC n a) : Rep E' a v := by
 cases a with
 | f fn caps =>
  simp only [rnC] at hr
  cases hr with
  | f _ _ ys h hr =>
   refine .f _ _ ys (by simpa using h) (fun i h1 h2 => ?_)
   have := hr i (by simpa using h1) h2
   simp only [List.getElem_map] at this
   exact nr0_rep hz hf this (ho _ (List.getElem_mem _))
 | _ => exact nr0_rep hz hf hr ho
theorem nrE_rep (hz : ∀ b, E.Z b → E'.Z b ∧ E'.w.heap[b]? = E.w.heap[b]?) (hf : ∀ i, i < n → f i < E.k → i < E'.k ∧ E'.ad i = E.ad (f i)) {a : AV} {v : Value} (hr : Rep E (rnE f a) v) (ho : HdE n a) : Rep E' a v := by
 cases a with
 | g cs =>
  simp only [rnE] at hr
  cases hr with
  | g _ ys h hr =>
   refine .g _ ys (by simpa using h) (fun i h1 h2 => ?_)
   have := hr i (by simpa using h1) h2
   simp only [List.getElem_map] at this
   exact nrC_rep hz hf this (ho _ (List.getElem_mem _))
 | _ => exact nrC_rep hz hf hr ho
end
def LentL (M : Mem) (f : Nat → Nat) (n : Nat) : List Nat → List Blk → Prop
 | [], [] => True
 | id :: r, b :: s => (M.get id = some (rnB f b) ∧ ∀ x ∈ b.xs, HdE n x) ∧ LentL M f n r s
 | _, _ => False
theorem LentL.get {M : Mem} {f : Nat → Nat} {n : Nat} : ∀ {ids : List Nat} {bs : List Blk}, LentL M f n ids bs → ids.length = bs.length ∧ ∀ i (h1 : i < ids.length) (h2 : i < bs.length), M.get ids[i] = some (rnB f bs[i]) ∧ ∀ x ∈ bs[i].xs, HdE n x
 | [], [], _ => ⟨rfl, fun i h => absurd h (by simp)⟩
 | id :: r, b :: s, h => ⟨by simp [h.2.get.1], fun i h1 h2 => match i, h1, h2 with
  | 0, _, _ => h.1
  | i + 1, h1, h2 => h.2.get.2 i (by simpa using h1) (by simpa using h2)⟩
 | [], _ :: _, h => h.elim
 | _ :: _, [], h => h.elim
def mkMem : Nat → List Blk → List (Nat × Blk)
 | _, [] => []
 | j, b :: r => (j, b) :: mkMem (j + 1) r
theorem mkMem_get : ∀ (bs : List Blk) (j i : Nat), assoc (mkMem j bs) i = if j ≤ i then bs[i - j]? else none
 | [], j, i => by simp [mkMem, assoc]
 | b :: r, j, i => by
  by_cases e : j = i
  · subst e; simp [mkMem, assoc]
  · simp only [mkMem, assoc, beq_ne e, cond_false, mkMem_get r (j + 1) i]
    by_cases h : j ≤ i
    · rw [if_pos h, if_pos (by omega), show i - j = (i - (j + 1)) + 1 by omega, List.getElem?_cons_succ]
    · rw [if_neg h, if_neg (by omega)]
def putAll (f : Nat → Nat) (L : List (Nat × Blk)) : List (Nat × Blk) → List (Nat × Blk)
 | [] => L
 | (j, b) :: r => insert (putAll f L r) (f j) (rnB f b)
theorem putAll_get (f : Nat → Nat) (hf : ∀ i j, f i = f j → i = j) (L : List (Nat × Blk)) : ∀ (N : List (Nat × Blk)) (i : Nat), (∀ j b, f j = i → assoc N j = some b → assoc (putAll f L N) i = some (rnB f b)) ∧ ((∀ j, f j = i → assoc N j = none) → assoc (putAll f L N) i = assoc L i)
 | [], i => ⟨(fun j b _ h => nomatch h), fun _ => rfl⟩
 | (k, c) :: r, i => by
  obtain ⟨h1, h2⟩ := putAll_get f hf L r i
  refine ⟨fun j b e h => ?_, fun h => ?_⟩
  · simp only [putAll, assoc_insert]
    by_cases hk : k = j
    · subst hk
      simp only [assoc, Nat.beq_refl, cond_true, Option.some.injEq] at h
      subst h
      rw [if_pos e]
    · simp only [assoc, beq_ne hk, cond_false] at h
      rw [if_neg fun e' => hk (hf _ _ (e'.trans e.symm))]
      exact h1 j b e h
  · simp only [putAll, assoc_insert]
    have hk : f k ≠ i := fun e => by
     have := h k e
     simp [assoc] at this
    rw [if_neg hk]
    refine h2 fun j e => ?_
    have := h j e
    simp only [assoc] at this
    by_cases hkj : k = j
    · subst hkj; exact absurd e hk
    · simpa [beq_ne hkj] using this
def ArgF (f : Nat → Nat) (n : Nat) (a b : AV) : Prop := (a = rnE f b ∧ HdE n b) ∨ (Weak a b ∧ Under 0 b)
def ArgsF (f : Nat → Nat) (n : Nat) : List AV → List AV → Prop
 | [], [] => True
 | a :: r, b :: s => ArgF f n a b ∧ ArgsF f n r s
 | _, _ => False
theorem ArgsF.get {f : Nat → Nat} {n : Nat} : ∀ {l m : List AV}, ArgsF f n l m → l.length = m.length ∧ ∀ i (h1 : i < l.length) (h2 : i < m.length), ArgF f n l[i] m[i]
 | [], [], _ => ⟨rfl, fun i h => absurd h (by simp)⟩
 | a :: r, b :: s, h => ⟨by simp [h.2.get.1], fun i h1 h2 => match i, h1, h2 with
  | 0, _, _ => h.1
  | i + 1, h1, h2 => h.2.get.2 i (by simpa using h1) (by simpa using h2)⟩
 | [], _ :: _, h => h.elim
 | _ :: _, [], h => h.elim
def AllHd (n : Nat) : List (Nat × Blk) → Prop
 | [] => True
 | (_, b) :: r => (∀ x ∈ b.xs, HdE n x) ∧ AllHd n r
theorem AllHd.get {n : Nat} : ∀ {l : List (Nat × Blk)}, AllHd n l → ∀ j b, assoc l j = some b → ∀ x ∈ b.xs, HdE n x
 | [], _, j, b, h => by cases h
 | (k, c) :: r, h, j, b, hj => by
  by_cases e : k = j
  · subst e
    simp only [assoc, Nat.beq_refl, cond_true, Option.some.injEq] at hj
    subst hj; exact h.1
  · simp only [assoc, beq_ne e, cond_false] at hj
    exact h.2.get j b hj
theorem rnI_lt {ids : List Nat} {k i : Nat} (h : i < ids.length) : rnI ids k i = ids[i] := by
 have hb : Nat.blt i ids.length = true := by simpa [Nat.blt_eq] using h
 simp only [rnI, hb, cond_true]
 rw [List.getD_eq_getElem?_getD, List.getElem?_eq_getElem h]; rfl
theorem rnI_ge {ids : List Nat} {k i : Nat} (h : ids.length ≤ i) : rnI ids k i = k + (i - ids.length) := by
  have : Nat.blt i ids.length = false := by
    cases e : Nat.blt i ids.length with
    | false => rfl
    | true => have : i < ids.length := by simpa [Nat.blt_eq] using e
              omega
  simp only [rnI, this, cond_false]
theorem rnI_inj {ids : List Nat} {k : Nat} (hn : ids.Nodup) (hk : ∀ i ∈ ids, i < k) : ∀ i j, rnI ids k i = rnI ids k j → i = j := fun i j e => by
 by_cases h1 : i < ids.length
 · by_cases h2 : j < ids.length
   · rw [rnI_lt h1, rnI_lt h2] at e
     exact (List.getElem_inj hn).1 e
   · rw [rnI_lt h1, rnI_ge (by omega)] at e
     have := hk _ (List.getElem_mem h1)
     omega
 · by_cases h2 : j < ids.length
   · rw [rnI_ge (by omega), rnI_lt h2] at e
     have := hk _ (List.getElem_mem h2)
     omega
   · rw [rnI_ge (by omega), rnI_ge (by omega)] at e
     omega
def Env.lend (E : Env) (ids : List Nat) : Env := ⟨E.w, fun i => (ids[i]?).bind E.ad, ids.length, fun b => E.hid b ∨ ∃ i q, i ∉ ids ∧ E.ad i = some q ∧ 0 < q.cp ∧ q.b = b⟩
def Env.back (E E' : Env) (ids : List Nat) : Env :=
 ⟨E'.w, fun i => if i < E.k then (if i ∈ ids then E'.ad (ids.idxOf i) else E.ad i) else E'.ad (i - E.k + ids.length), E.k + (E'.k - ids.length), E.hid⟩
theorem lend_back {w0 : World} {E E' : Env} {M M' : Mem} {ids : List Nat} (hg : Good w0 E M) (hn : ids.Nodup) (hid : ∀ i ∈ ids, i < E.k) (k1 : Good w0 E' M') (k2 : Later (E.lend ids) E') (hN : AllHd M'.k M'.l) :
 Good w0 (E.back E' ids) ⟨putAll (rnI ids M.k) (M.without ids).l M'.l, M.k + (M'.k - ids.length)⟩ ∧ Later E (E.back E' ids) ∧ ∀ r v, HdR M'.k r → Rep E' r v → Rep (E.back E' ids) (rnR (rnI ids M.k) r) v := by
 have hkk : M.k = E.k := hg.k
 have finj := rnI_inj (k := M.k) hn (fun i hi => by rw [hkk]; exact hid i hi)
 have lad : ∀ i (hi : i < ids.length), (E.lend ids).ad i = E.ad ids[i] := fun i hi => by simp only [Env.lend, List.getElem?_eq_getElem hi, Option.bind_some]
 have lnone : ∀ i, ids.length ≤ i → (E.lend ids).ad i = none := fun i hi => by simp only [Env.lend, List.getElem?_eq_none hi, Option.bind_none]
 have hz1 : ∀ b, E.Z b → (E.lend ids).Z b ∧ (E.lend ids).w.heap[b]? = E.w.heap[b]? := fun b hb => by
  refine ⟨⟨hb.1, fun hh => ?_, fun i q hq hcp => ?_⟩, rfl⟩
  · rcases hh with hh | ⟨i, q, _, h1, h2, h3⟩
    · exact hb.2.1 hh
    · exact hb.2.2 i q h1 h2 h3
  · by_cases hi : i < ids.length
    · rw [lad i hi] at hq; exact hb.2.2 _ q hq hcp
    · rw [lnone i (by omega)] at hq; cases hq
 have hEk : ids.length ≤ E'.k := k2.k
 have hNk : M'.k = E'.k := k1.k
 have hh' : E'.hid = (E.lend ids).hid := k2.hid
 -- the caller's moment behind
 have bad : ∀ j, (E.back E' ids).ad (rnI ids M.k j) = E'.ad j := fun j => by
  by_cases hj : j < ids.length
  · have h1 := hid _ (List.getElem_mem hj)
    simp only [Env.back, rnI_lt hj, if_pos h1, if_pos (List.getElem_mem hj)]
    congr 1
    exact List.Nodup.idxOf_getElem hn j hj
  · simp only [Env.back, rnI_ge (Nat.not_lt.1 hj)]
    rw [if_neg (by omega), show M.k + (j - ids.length) - E.k + ids.length = j by omega]
 have bold : ∀ i, i < E.k → i ∉ ids → (E.back E' ids).ad i = E.ad i := fun i hi hni => by simp only [Env.back, if_pos hi, if_neg hni]
 have bcase : ∀ i q, (E.back E' ids).ad i = some q → (i < E.k ∧ i ∉ ids ∧ E.ad i = some q) ∨ ∃ j, i = rnI ids M.k j ∧ E'.ad j = some q := fun i q hq => by
  by_cases hi : i < E.k
  · by_cases hni : i ∈ ids
    · right
      obtain ⟨j, hj, rfl⟩ := List.getElem_of_mem hni
      exact ⟨j, (rnI_lt hj).symm, by rw [← bad j, rnI_lt hj]; exact hq⟩
    · left; exact ⟨hi, hni, by rw [← bold i hi hni]; exact hq⟩
  · right
    refine ⟨i - E.k + ids.length, ?_, ?_⟩
    · rw [rnI_ge (by omega)]; omega
    · simp only [Env.back, if_neg hi] at hq; exact hq
 have hz2 : ∀ b, E'.Z b → (E.back E' ids).Z b ∧ (E.back E' ids).w.heap[b]? = E'.w.heap[b]? := fun b hb => by
  have hnh : ¬ (E.lend ids).hid b := by rw [← hh']; exact hb.2.1
  refine ⟨⟨hb.1, fun hh => hnh (.inl hh), fun i q hq hcp => ?_⟩, rfl⟩
  rcases bcase i q hq with ⟨g1, g2, g3⟩ | ⟨j, rfl, g⟩
  · intro e; exact hnh (.inr ⟨i, q, g2, g3, hcp, e⟩)
  · exact hb.2.2 j q g hcp
 have hlt : ∀ j, j < E'.k → rnI ids M.k j < (E.back E' ids).k := fun j hj => by
  show _ < E.k + (E'.k - ids.length)
  by_cases h1 : j < ids.length
  · rw [rnI_lt h1]; have := hid _ (List.getElem_mem h1); omega
  · rw [rnI_ge (by omega)]; omega
 have hf2 : ∀ i, i < M'.k → i < E'.k → rnI ids M.k i < (E.back E' ids).k ∧ (E.back E' ids).ad (rnI ids M.k i) = E'.ad i := fun i _ hi => ⟨hlt i hi, bad i⟩
 have hlater : Later E (E.back E' ids) := by
  refine ⟨fun b hb => ?_, by show E.k ≤ E.k + _; omega, fun i hi q' hq' => ?_, rfl, fun b hb => k2.hs b (.inl hb)⟩
  · have h1 := hz1 b hb
    have h2 := k2.z b h1.1
    exact ⟨(hz2 b h2.1).1, h2.2⟩
  · rcases bcase i q' hq' with ⟨g1, g2, g3⟩ | ⟨j, rfl, g⟩
    · exact ⟨q', g3, Nat.le_refl _, fun _ => rfl, fun _ _ => ⟨rfl, rfl⟩⟩
    · by_cases hj : j < ids.length
      · obtain ⟨q, c1, c2, c3⟩ := k2.ad j hj q' g
        rw [lad j hj] at c1
        exact ⟨q, by rw [rnI_lt hj]; exact c1, c2, c3⟩
      · rw [rnI_ge (by omega)] at hi; omega
 have hsame : ∀ i q, i ∉ ids → E.ad i = some q → 0 < q.cp → E'.w.heap[q.b]? = E.w.heap[q.b]? := fun i q hni hq hcp => k2.hs q.b (.inr ⟨i, q, hni, hq, hcp, rfl⟩)
 have mget : ∀ i, (∃ j b, i = rnI ids M.k j ∧ M'.get j = some b ∧ (⟨putAll (rnI ids M.k) (M.without ids).l M'.l, M.k + (M'.k - ids.length)⟩ : Mem).get i = some (rnB (rnI ids M.k) b)) ∨
  ((∀ j, rnI ids M.k j = i → M'.get j = none) ∧ (⟨putAll (rnI ids M.k) (M.without ids).l M'.l, M.k + (M'.k - ids.length)⟩ : Mem).get i = (M.without ids).get i) := fun i => by
  obtain ⟨p1, p2⟩ := putAll_get (rnI ids M.k) finj (M.without ids).l M'.l i
  by_cases hx : ∃ j b, rnI ids M.k j = i ∧ assoc M'.l j = some b
  · obtain ⟨j, b, e1, e2⟩ := hx
    exact .inl ⟨j, b, e1.symm, e2, p1 j b e1 e2⟩
  · have hno : ∀ j, rnI ids M.k j = i → assoc M'.l j = none := fun j e => by
     cases hc : assoc M'.l j with
     | none => rfl
     | some b => exact absurd ⟨j, b, e, hc⟩ hx
    exact .inr ⟨hno, p2 hno⟩
 have hgood : Good w0 (E.back E' ids) ⟨putAll (rnI ids M.k) (M.without ids).l M'.l, M.k + (M'.k - ids.length)⟩ := by
  refine ⟨k1.below, by show M.k + _ = E.k + _; rw [hkk, hNk], fun i q hq => ?_, fun i hi => ?_, fun i blk hi => ?_, fun i q hq hcp hh => ?_, fun b hb => ?_, fun i i' q q' hne h1 h2 hc1 hc2 => ?_⟩
  · rcases bcase i q hq with ⟨g1, _, _⟩ | ⟨j, rfl, g⟩
    · show i < E.k + _; omega
    · exact hlt j (k1.lt _ _ g)
  · cases hq : (E.back E' ids).ad i with
    | none => rfl
    | some q =>
     rcases mget i with ⟨j, b, rfl, e2, e3⟩ | ⟨e1, e2⟩
     · rw [e3] at hi; cases hi
     · rcases bcase i q hq with ⟨g1, g2, g3⟩ | ⟨j, rfl, g⟩
       · rw [e2, without_get, if_neg g2] at hi
         rw [hg.gone i hi] at g3; cases g3
       · rw [k1.gone j (e1 j rfl)] at g; cases g
  · rcases mget i with ⟨j, b, rfl, e2, e3⟩ | ⟨e1, e2⟩
    · rw [e3] at hi
      injection hi with hi
      subst hi
      obtain ⟨q, h1, h2, h3, h4, h5⟩ := k1.held _ _ e2
      refine ⟨q, by rw [bad]; exact h1, h2, by rw [h3]; simp [rnB], h4, fun hcp => ⟨(h5 hcp).1, ?_⟩⟩
      obtain ⟨c0, arr, c1, c2, c3⟩ := (h5 hcp).2
      refine ⟨c0, arr, c1, ⟨c2.1, by have := c2.2; simpa [rnB] using this⟩, fun m hm => ?_⟩
      have hm2 : m < b.xs.length := by simpa [rnB] using hm
      have hx : (rnB (rnI ids M.k) b).xs[m] = rnE (rnI ids M.k) b.xs[m] := by simp [rnB]
      have hcl : (rnB (rnI ids M.k) b).xs[m].cells = b.xs[m].cells.map (rnC (rnI ids M.k)) := by rw [hx, rnE_cells]
      obtain ⟨d1, d2⟩ := c3 m hm2
      refine ⟨by rw [hcl, List.length_map]; exact d1, fun c hc => ?_⟩
      have hc2 : c < b.xs[m].cells.length := by rw [hcl, List.length_map] at hc; exact hc
      obtain ⟨y, f1, f2, f3⟩ := d2 c hc2
      refine ⟨y, f1, f2, ?_⟩
      simp only [hcl, List.getElem_map]
      exact rnC_rep hz2 hf2 f3 ((hN.get _ _ e2 _ (List.getElem_mem hm2)).cells _ (List.getElem_mem hc2))
    · rw [e2, without_get] at hi
      split at hi
      · cases hi
      · rename_i hni
        obtain ⟨q, h1, h2, h3, h4, h5⟩ := hg.held i blk hi
        refine ⟨q, by rw [bold i (hg.lt _ _ h1) hni]; exact h1, h2, h3, h4, fun hcp => ⟨(h5 hcp).1, ((h5 hcp).2).later hlater (hsame i q hni h1 hcp)⟩⟩
  · rcases bcase i q hq with ⟨g1, g2, g3⟩ | ⟨j, rfl, g⟩
    · exact hg.hid i q g3 hcp hh
    · exact k1.hid j q g hcp (by rw [hh']; exact .inl hh)
  · exact k1.old b (by rw [hh']; exact .inl hb)
  · rcases bcase i q h1 with ⟨g1, g2, g3⟩ | ⟨j, rfl, g⟩
    · rcases bcase i' q' h2 with ⟨g1', g2', g3'⟩ | ⟨j', rfl, g'⟩
      · exact hg.inj i i' q q' hne g3 g3' hc1 hc2
      · intro e
        exact k1.hid j' q' g' hc2 (by rw [hh']; exact .inr ⟨i, q, g2, g3, hc1, e⟩)
    · rcases bcase i' q' h2 with ⟨g1', g2', g3'⟩ | ⟨j', rfl, g'⟩
      · intro e
        exact k1.hid j q g hc1 (by rw [hh']; exact .inr ⟨i', q', g2', g3', hc2, e.symm⟩)
      · exact k1.inj j j' q q' (fun e => hne (by rw [e])) g g' hc1 hc2
 exact ⟨hgood, hlater, fun r v hr k3 => rnR_rep hz2 hf2 k3 hr⟩
theorem PanOut.lent {w0 : World} {E : Env} {M : Mem} {ids : List Nat} {x : Value} {w' : World} {pf pf' : Value → Mem → Prop} (hg : Good w0 E M) (hn : ids.Nodup) (hid : ∀ i ∈ ids, i < E.k) (hp : PanOut pf' w0 (E.lend ids) x w')
 (hx : ∀ M' k, pf' x M' → pf x ⟨(M.without ids).l, k⟩) : PanOut pf w0 E x w' := by
 obtain ⟨E', M', h1, rfl, h2, h3⟩ := hp
 obtain ⟨g1, g2⟩ := h2.bare
 obtain ⟨b1, b2, _⟩ := lend_back hg hn hid g1 (h3.trans g2) trivial
 exact ⟨E.back E'.bare ids, _, hx M' _ h1, rfl, b1, b2⟩
theorem icall_lendG {P : Program} {fn : FuncId} {args args' : List AV} {M N : Mem} {r : AV} {K : AV → Mem → Prop} {G : Prop} (ids : List Nat) (bs : List Blk)
 (h : ICallG pf P fn args' ⟨mkMem 0 bs, ids.length⟩ (fun a M' => G ∧ a = r ∧ M' = N)) (hn : ids.Nodup) (hl : LentL M (rnI ids M.k) ids.length ids bs) (ha : ArgsF (rnI ids M.k) ids.length args args')
 (hr : HdR N.k r) (hN : AllHd N.k N.l) (hK : G → K (rnR (rnI ids M.k) r) ⟨putAll (rnI ids M.k) (M.without ids).l N.l, M.k + (N.k - ids.length)⟩) (hp : Indep pf := by exact fun _ _ _ h => h) : ICallG pf P fn args M K := by
 refine ⟨h.1, fun w0 E vs hg hs hrep => ?_⟩
 obtain ⟨hlen, hget⟩ := hl.get
 obtain ⟨alen, aget⟩ := ha.get
 have hid : ∀ i ∈ ids, i < E.k := fun i hi => by
  obtain ⟨j, hj, rfl⟩ := List.getElem_of_mem hi
  obtain ⟨h1, _⟩ := hget j hj (by omega)
  obtain ⟨q, h2, _⟩ := hg.held _ _ h1
  exact hg.lt _ _ h2
 have hkk : M.k = E.k := hg.k
 have finj := rnI_inj (k := M.k) hn (fun i hi => by rw [hkk]; exact hid i hi)
 have lad : ∀ i (hi : i < ids.length), (E.lend ids).ad i = E.ad ids[i] := fun i hi => by simp only [Env.lend, List.getElem?_eq_getElem hi, Option.bind_some]
 have lnone : ∀ i, ids.length ≤ i → (E.lend ids).ad i = none := fun i hi => by simp only [Env.lend, List.getElem?_eq_none hi, Option.bind_none]
 have hz1 : ∀ b, E.Z b → (E.lend ids).Z b ∧ (E.lend ids).w.heap[b]? = E.w.heap[b]? := fun b hb => by
  refine ⟨⟨hb.1, fun hh => ?_, fun i q hq hcp => ?_⟩, rfl⟩
  · rcases hh with hh | ⟨i, q, _, h1, h2, h3⟩
    · exact hb.2.1 hh
    · exact hb.2.2 i q h1 h2 h3
  · by_cases hi : i < ids.length
    · rw [lad i hi] at hq; exact hb.2.2 _ q hq hcp
    · rw [lnone i (by omega)] at hq; cases hq
 have hf1 : ∀ i, i < ids.length → rnI ids M.k i < E.k → i < (E.lend ids).k ∧ (E.lend ids).ad i = E.ad (rnI ids M.k i) := fun i hi _ => ⟨hi, by rw [lad i hi, rnI_lt hi]⟩
 have hlb : ∀ i q, E.ad i = some q → 0 < q.cp → w0.heap.size ≤ q.b ∧ q.b < E.w.heap.size := fun i q hq hcp => hg.lt_b hq hcp
 have hgc : Good w0 (E.lend ids) ⟨mkMem 0 bs, ids.length⟩ := by
  refine ⟨hg.below, rfl, fun i q hq => ?_, fun i hi => ?_, fun i blk hi => ?_, fun i q hq hcp hh => ?_, fun b hb => ?_, fun i i' q q' hne h1 h2 hc1 hc2 => ?_⟩
  · by_cases hi : i < ids.length
    · exact hi
    · rw [lnone i (by omega)] at hq; cases hq
  · simp only [Mem.get, mkMem_get, Nat.zero_le, if_true, Nat.sub_zero] at hi
    have := List.getElem?_eq_none_iff.1 hi
    exact lnone i (by omega)
  · simp only [Mem.get, mkMem_get, Nat.zero_le, if_true, Nat.sub_zero] at hi
    obtain ⟨hi2, rfl⟩ := List.getElem?_eq_some_iff.1 hi
    obtain ⟨g1, g2⟩ := hget i (by omega) hi2
    obtain ⟨q, h1, h2, h3, h4, h5⟩ := hg.held _ _ g1
    refine ⟨q, by rw [lad i (by omega)]; exact h1, h2, by rw [h3]; simp [rnB], h4, fun hcp => ⟨(h5 hcp).1, ?_⟩⟩
    obtain ⟨c0, arr, c1, c2, c3⟩ := (h5 hcp).2
    refine ⟨c0, arr, c1, ⟨c2.1, by have := c2.2; simpa [rnB] using this⟩, fun j hj => ?_⟩
    have hj2 : j < (rnB (rnI ids M.k) bs[i]).xs.length := by simpa [rnB] using hj
    obtain ⟨d1, d2⟩ := c3 j hj2
    have hx : (rnB (rnI ids M.k) bs[i]).xs[j] = rnE (rnI ids M.k) bs[i].xs[j] := by simp [rnB]
    have hcl : (rnB (rnI ids M.k) bs[i]).xs[j].cells = bs[i].xs[j].cells.map (rnC (rnI ids M.k)) := by rw [hx, rnE_cells]
    refine ⟨by rw [← (show (rnB (rnI ids M.k) bs[i]).sz = bs[i].sz from rfl), ← d1, hcl, List.length_map], fun m hm => ?_⟩
    obtain ⟨y, e1, e2, e3⟩ := d2 m (by rw [hcl, List.length_map]; exact hm)
    refine ⟨y, e1, e2, ?_⟩
    simp only [hcl, List.getElem_map] at e3
    exact nrC_rep hz1 hf1 e3 ((g2 _ (List.getElem_mem hj)).cells _ (List.getElem_mem hm))
  · by_cases hi : i < ids.length
    · rw [lad i hi] at hq
      rcases hh with hh | ⟨i', q', k1, k2, k3, k4⟩
      · exact hg.hid _ q hq hcp hh
      · exact hg.inj _ _ q' q (fun e => k1 (by rw [e]; exact List.getElem_mem hi)) k2 hq k3 hcp k4
    · rw [lnone i (by omega)] at hq; cases hq
  · rcases hb with hb | ⟨i', q', k1, k2, k3, rfl⟩
    · exact hg.old b hb
    · exact (hlb _ _ k2 k3).2
  · by_cases hi : i < ids.length
    · by_cases hi' : i' < ids.length
      · rw [lad i hi] at h1
        rw [lad i' hi'] at h2
        exact hg.inj _ _ q q' (fun e => hne ((List.getElem_inj hn).1 e)) h1 h2 hc1 hc2
      · rw [lnone i' (by omega)] at h2; cases h2
    · rw [lnone i (by omega)] at h1; cases h1
 refine Calls.mono' (h.2 w0 (E.lend ids) vs hgc (by rw [hs, alen]) fun i h1 h2 => ?_) ?_
 · have h3 : i < args.length := by omega
   have hra := hrep i h3 h2
   rcases aget i h3 h1 with ⟨e1, e2⟩ | ⟨e1, e2⟩
   · rw [e1] at hra
     exact nrE_rep hz1 hf1 hra e2
   · exact Rep.pure hz1 (e1.rep hra) e2
 rintro e w' (⟨v, E', M', a, rfl, rfl, k1, k2, k3, hG, rfl, rfl⟩ | ⟨x, rfl, ho⟩)
 rotate_left
 · exact .inr ⟨x, rfl, ho.lent hg hn hid fun M' k hx => hp x M' _ hx⟩
 obtain ⟨hgood, hlater, hrep'⟩ := lend_back hg hn hid k1 k2 hN
 exact .inl ⟨v, E.back E' ids, _, _, rfl, rfl, hgood, hlater, hrep' _ _ hr k3, hK hG⟩
theorem icall_lend {P : Program} {fn : FuncId} {args args' : List AV} {M N : Mem} {r : AV} {K : AV → Mem → Prop} (ids : List Nat) (bs : List Blk)
 (h : ICallG pf P fn args' ⟨mkMem 0 bs, ids.length⟩ (fun a M' => a = r ∧ M' = N)) (hn : ids.Nodup) (hl : LentL M (rnI ids M.k) ids.length ids bs) (ha : ArgsF (rnI ids M.k) ids.length args args')
 (hr : HdR N.k r) (hN : AllHd N.k N.l) (hK : K (rnR (rnI ids M.k) r) ⟨putAll (rnI ids M.k) (M.without ids).l N.l, M.k + (N.k - ids.length)⟩) (hp : Indep pf := by exact fun _ _ _ h => h) : ICallG pf P fn args M K :=
 icall_lendG (G := True) ids bs (ICall.mono h fun _ _ h => ⟨trivial, h⟩) hn hl ha hr hN (fun _ => hK) hp
theorem nblt {a b : Nat} : Nat.blt a b = decide (a < b) := by
 by_cases h : a < b
 · rw [show Nat.blt a b = true by simpa [Nat.blt_eq] using h, decide_eq_true h]
 · rw [decide_eq_false h]
   cases e : Nat.blt a b with
   | false => rfl
   | true => exact absurd (by simpa [Nat.blt_eq] using e) h
theorem rn_data {f : Nat → Nat} {xs : List AV} (h : ∀ x ∈ xs, rnE f x = x) : xs.map (rnE f) = xs := by
 rw [List.map_congr_left (g := fun x => x) h, List.map_id']
theorem rn_I {f : Nat → Nat} {l : List Int} : (l.map encI).map (rnE f) = l.map encI := rn_data fun x hx => by
 obtain ⟨r, _, rfl⟩ := List.mem_map.1 hx
 rfl
theorem rn_B {f : Nat → Nat} {l : List UInt8} : (l.map encB).map (rnE f) = l.map encB := rn_data fun x hx => by
 obtain ⟨r, _, rfl⟩ := List.mem_map.1 hx
 rfl
theorem hd_I {n : Nat} {l : List Int} : ∀ x ∈ l.map encI, HdE n x := fun x hx => by
 obtain ⟨r, _, rfl⟩ := List.mem_map.1 hx
 exact .c _
theorem hd_B {n : Nat} {l : List UInt8} : ∀ x ∈ l.map encB, HdE n x := fun x hx => by
 obtain ⟨r, _, rfl⟩ := List.mem_map.1 hx
 exact .c _
end Go.Ab
namespace Go.Ab
open Go Go.RowKit
variable {pf : Value → Mem → Prop}
inductive FzS (K : ASt → Prop) : ASt → Prop
 | done {s : ASt} (h : K s) : FzS K s
 | step {s : ASt} (id : Nat) (keep : List Nat) (hb : BOk s.m id (remove s.m.l id)) (hs : SOk s id keep) (h : FzS K (frz s id keep)) : FzS K s
theorem FzS.out {K : ASt → Prop} {w0 : World} {D : List Deferred} {a : Act} {E0 : Env} {s : ASt} (h : FzS K s) : ∀ E : Env, St w0 E D s a → Later E0 E → ∃ E' s', E'.w = E.w ∧ St w0 E' D s' a ∧ Later E0 E' ∧ K s' := by
 induction h with
 | done h => exact fun E hst hl => ⟨E, _, rfl, hst, hl, h⟩
 | step id keep hb hs h ih =>
  intro E hst hl
  obtain ⟨E', s', h1, h2, h3, h4⟩ := ih (E.without [id]) (hst.freeze hb hs) (hl.trans (hst.g.without [id]).2)
  exact ⟨E', s', h1, h2, h3, h4⟩
theorem loop_ruleF' {P : Program} {tab : Tab} (hT : TabOk P tab) {c : Code} {K : Exit → ASt → Prop} {s : ASt} {α : Type} (I : α → ASt) (G : α → Prop) (μ : α → Nat) (x0 : α) (h0 : G x0)
 (hs : Fits s (I x0)) (hk : ∀ y, s.m.k ≤ (I y).m.k)
 (round : ∀ y, G y → awG pf P tab c (thenK (FzS fun s' => ∃ y', G y' ∧ μ y' < μ y ∧ Fits s' (I y')) K) (I y)) : ACodeG pf P (.loop c) K s := by
 intro hK ro w0 E D a hst
 obtain ⟨E1, e1, hs1, hl1⟩ := hst.fit hs (.refl E) (by rw [← hst.g.k]; exact hk _)
 rw [← e1]
 refine wpIn_loop_ghost (fun n a w => ∃ E' y, E'.w = w ∧ St w0 E' D (I y) a ∧ Later E E' ∧ G y ∧ μ y = n) (μ x0) ⟨E1, x0, rfl, hs1, hl1, h0, rfl⟩ ?_
 rintro n a w ⟨E2, y, rfl, hs2, hl2, hG, rfl⟩
 refine Code.wpIn_mono ?_ (aw_sound hT c _ _ (round y hG) (fun x s hx => hK x s hx) ro w0 E2 D a hs2)
 rintro e a' w' ⟨E3, s3, rfl, hs3, hl3, hK⟩
 cases e with
 | normal =>
  obtain ⟨E5, s5, e5, hs5, hl5, y', h1, h2, h3⟩ := FzS.out hK E3 hs3 (hl2.trans hl3)
  obtain ⟨E4, e4, hs4, hl4⟩ := hs5.fit h3 hl5 (by rw [← hst.g.k]; exact hk _)
  exact ⟨μ y', h2, E4, y', e4.trans e5, hs4, hl4, h1, rfl⟩
 | _ => exact ⟨E3, s3, rfl, hs3, hl2.trans hl3, hK⟩
theorem loop_ruleF {P : Program} {tab : Tab} (hT : TabOk P tab) (keep : List Nat) {c : Code} {K : Exit → ASt → Prop} {s : ASt} {α : Type} (ch : α → Slots) (mem : α → Mem) (G : α → Prop) (μ : α → Nat) (x0 : α) (h0 : G x0) (hk : ∀ y, s.m.k ≤ (mem y).k)
 (hs : Fits s ⟨laidS (keepS s.sl keep) (ch x0), mem x0, s.N⟩)
 (round : ∀ y, G y → awG pf P tab c (thenK (FzS fun s' => ∃ y', G y' ∧ μ y' < μ y ∧ Fits s' ⟨laidS (keepS s.sl keep) (ch y'), mem y', s.N⟩) K) ⟨laidS (keepS s.sl keep) (ch y), mem y, s.N⟩) : ACodeG pf P (.loop c) K s :=
 loop_ruleF' hT (fun y => ⟨laidS (keepS s.sl keep) (ch y), mem y, s.N⟩) G μ x0 h0 hs hk round
theorem make_same {e : TypeId} {ti : TI} {M : Mem} {k k' : IntKind} {c : Int} {K : AV → Mem → Prop} (h1 : ti.k.agg = true ∨ 0 < ti.sz) (h2 : 0 ≤ c) (h3 : ti.by' * c.toNat ≤ 281474976710656) (h4 : c ≤ 9223372036854775807)
 (hK : K (.s M.k 0 c.toNat) (newMem M ⟨e, ti.sz, List.replicate c.toNat (zeroAV ti)⟩)) : makeK e ti M (.c (.int k c)) (.c (.int k' c)) K := ⟨h1, h2, h3, h4, .inl ⟨rfl, hK⟩⟩
theorem make_room {e : TypeId} {ti : TI} {M : Mem} {k k' : IntKind} {c : Int} {K : AV → Mem → Prop} (h1 : ti.k.agg = true ∨ 0 < ti.sz) (h2 : 0 ≤ c) (h3 : ti.by' * c.toNat ≤ 281474976710656) (h4 : c ≤ 9223372036854775807)
 (hK : K (.s M.k 0 0) (newMem M ⟨e, ti.sz, []⟩)) : makeK e ti M (.c (.int k 0)) (.c (.int k' c)) K := ⟨h1, h2, h3, h4, .inr ⟨rfl, hK⟩⟩
theorem underL_mem {k : Nat} {xs : List AV} (h : ∀ a ∈ xs, ∀ x ∈ a.cells, Under k x) : UnderL k xs := fun i hi j hj => h _ (List.getElem_mem hi) _ (List.getElem_mem hj)
end Go.Ab
namespace Go.Ab
open Go Go.RowKit Go.ChangeShapes Go.WideShapes Go.ChangeAt
section
variable {H : Type} {enc : TypeId × Value → H} {P : Program} {w : World} {base : Nat} {spare : Nat → Bool} {held : Bool}
theorem trodAll_five {t t' t'' t3 t4 : TypeId} {args : Array Value} {ds : List (DataW H)} {ps : List MemPlace} (h : DataW.TrodAll enc P w base spare held [t, t', t'', t3, t4] args.toList ds ps) :
 ∃ v v' v'' v3 v4 d d' d'' d3 d4 p p' p'' p3 p4, args = #[v, v', v'', v3, v4] ∧ ds = [d, d', d'', d3, d4] ∧ ps = p ++ (p' ++ (p'' ++ (p3 ++ p4))) ∧ DataW.Trod enc P w base spare held t v d p ∧ DataW.Trod enc P w base spare held t' v' d' p' ∧
  DataW.Trod enc P w base spare held t'' v'' d'' p'' ∧ DataW.Trod enc P w base spare held t3 v3 d3 p3 ∧ DataW.Trod enc P w base spare held t4 v4 d4 p4 := by
 obtain ⟨v, vs, d, ds', p, q, e1, rfl, rfl, h0, h⟩ := trodAll_cons h
 obtain ⟨v', vs', d', ds'', p', q', rfl, rfl, rfl, h1, h⟩ := trodAll_cons h
 obtain ⟨v'', vs'', d'', ds3, p'', q'', rfl, rfl, rfl, h2, h⟩ := trodAll_cons h
 obtain ⟨v3, vs3, d3, ds4, p3, q3, rfl, rfl, rfl, h3, h⟩ := trodAll_cons h
 obtain ⟨v4, vs4, d4, ds5, p4, q4, rfl, rfl, rfl, h4, h⟩ := trodAll_cons h
 obtain ⟨rfl, rfl, rfl⟩ := trodAll_nil h
 refine ⟨v, v', v'', v3, v4, d, d', d'', d3, d4, p, p', p'', p3, p4, ?_, rfl, by simp, h0, h1, h2, h3, h4⟩
 cases args; simp_all
theorem size_at {ts : List TypeId} {ds : List (DataW H)} (h : (DataW.weightsEach P ts ds).all (· ≤ reachBytes) = true) {j : Nat} {t : TypeId} {d : DataW H} (ht : ts[j]? = some t) (hd : ds[j]? = some d) : ∀ m ∈ d.weights P t, m ≤ reachBytes := fun m hm => by
 simpa using List.all_eq_true.1 h m (DataW.weights_mem_each ht hd m hm)
end
end Go.Ab
namespace Go.Ab
open Go Go.RowKit
variable {pf : Value → Mem → Prop}
theorem acode_sw {P : Program} {tab : Tab} (hT : TabOk P tab) {x y : Code} {K : Exit → ASt → Prop} {s : ASt} (h : awG pf P tab x (thenK (FzK (thenK (ACodeG pf P y K) K) .normal) K) s) : ACodeG pf P (x.seq y) K s := fun hK ro w0 E D a hst => by
 refine wpIn_seq (Code.wpIn_mono (fun ex a' w' ⟨E', s', h1, h2, h3, h4⟩ => ?_) (aw_sound hT x _ _ h (fun x s hx => hK x s hx) ro w0 E D a hst))
 subst h1
 cases ex
 case normal =>
  obtain ⟨E2, s2, k1, k2, k3, k4⟩ := FzK.out h4 E' h2 h3
  rw [← k1]
  exact Code.wpIn_mono (fun ex a'' w'' ⟨E3, s3, j1, j2, j3, j4⟩ => ⟨E3, s3, j1, j2, k3.trans j3, j4⟩) (k4 (fun x s hx => hK x s hx) ro w0 E2 D _ k2)
 all_goals exact ⟨E', s', rfl, h2, h3, h4⟩
theorem pcall_bodyA {P : Program} {tab : Tab} (hT : TabOk P tab) {f : FuncId} {fn : Func} {c : Code} {args : List AV} {res : AV} (hf : P.funcs[f]? = some fn) (hb : fn.body = some c)
 (hn : (fn.name == "runtime.NumGoroutine") = false) (hl : args.length ≤ fn.ntmps) (h : ACodeG NoP P c (retK tab fn fun a M => Exp M a res) ⟨mkSlots 0 args, ⟨[], 0⟩, fn.ntmps⟩) : PCallG NoP P f args res :=
 icall_body hT hf hb hn hl h
def AOk (M : Mem) (id : Nat) : List AV → Prop
 | [] => True
 | a :: r => FOkE M id a ∧ AOk M id r
theorem AOk.get {M : Mem} {id : Nat} : ∀ {l : List AV}, AOk M id l → ∀ a ∈ l, FOkE M id a
 | [], _, a, ha => absurd ha (by simp)
 | b :: r, h, a, ha => by
  rcases List.mem_cons.1 ha with rfl | ha
  · exact h.1
  · exact AOk.get h.2 a ha
theorem icall_sink {P : Program} {f : FuncId} {args : List AV} {M : Mem} {K : AV → Mem → Prop} (id : Nat) (hb : BOk M id (remove M.l id)) (ha : AOk M id args)
 (h : ICallG pf P f (args.map (frzE M id)) ⟨mapB (frzE M id) (remove M.l id), M.k⟩ K) : ICallG pf P f args M K := by
 obtain ⟨h1, h2⟩ := h
 refine ⟨h1, fun w0 E vs hg hs hr => ?_⟩
 refine Calls.mono' (h2 w0 (E.without [id]) vs (hg.freeze hb) (by simpa using hs) fun i k1 k2 => ?_) ?_
 · simp only [List.getElem_map]
   exact rep_frzE hg (hr i (by simpa using k1) k2) (ha.get _ (List.getElem_mem _))
 · rintro e w' (⟨v, E', M', a, j1, j2, j3, j4, j5, j6⟩ | ⟨x, he, ho⟩)
   · exact .inl ⟨v, E', M', a, j1, j2, j3, (hg.without [id]).2.trans j4, j5, j6⟩
   · exact .inr ⟨x, he, ho.later (hg.without [id]).2⟩
end Go.Ab
