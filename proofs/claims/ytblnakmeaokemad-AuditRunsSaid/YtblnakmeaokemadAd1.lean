/- Audits: what they are; may it be one; is it none; did all tell. -/
import Derived.Test.YtblnakmeaokemadCl6
import Derived.Test.YtblnakmeaokemadRt5
import Derived.Test.YtblnakmeaokemadRt13
set_option linter.unusedSimpArgs false
set_option linter.unusedVariables false
set_option linter.constructorNameAsVariable false
set_option maxRecDepth 100000
namespace Go.Ab
open Go Go.Proofs Go.RowKit

/-- An audit. -/
structure AudD where
  y : Int
  p : Int
  told : List Bool
  use : List Int
  inc : List Int
  mv : Bool
  deriving Inhabited, DecidableEq
def encO (b : Bool) : AV := .c (.bool b)
theorem encO_eq {b : Bool} : encO b = .c (.bool b) := rfl
theorem elem_O {l : List Bool} {i : Nat} {K : AV → Prop} : Elem (l.map encO) i K = (i < l.length ∧ K (.c (.bool (l.getD i false)))) := elem_map _
theorem underL_O {k : Nat} {l : List Bool} : UnderL k (l.map encO) = True := eq_true (underL_map k (fun b x hx => by
  simp only [encO, AV.cells, List.mem_singleton] at hx
  subst hx; exact .c _) l)
theorem pureO (l : List Bool) : PureL (l.map encO) := by rw [pureL_eq, underL_O]; trivial
theorem frz_O {M : Mem} {id : Nat} {l : List Bool} : (l.map encO).map (frzE M id) = l.map encO := frz_data fun x hx => by
  obtain ⟨r, _, rfl⟩ := List.mem_map.1 hx
  rfl
theorem bok_O {M : Mem} {id : Nat} {l : List Bool} : (∀ x ∈ l.map encO, ∀ c ∈ x.cells, FOk M id c) = True := eq_true fun x hx c hc => by
  obtain ⟨r, _, rfl⟩ := List.mem_map.1 hx
  simp only [encO, AV.cells, List.mem_singleton] at hc
  subst hc; trivial
theorem exp_bw {M : Mem} {a b : Bool} (h : a = b) : Exp M (.c (.bool a)) (.c (.bool b)) := by subst h; exact exp_c
def AudV (a : AudD) : AV := .g [.c (.int .i64 a.y), .c (.int .i64 a.p), .l 1 (a.told.map encO), .l 1 (a.use.map encI), .l 1 (a.inc.map encI), .c (.bool a.mv)]
theorem arg_aud {M : Mem} {ids : List Nat} {a : AudD} : VOkA M (AudV a) ∧ (∀ k ∈ idsA (AudV a), k ∈ ids) ∧ Weak (viewA M (AudV a)) (AudV a) ∧ Under 0 (AudV a) :=
  arg_pure ⟨argC_c, argC_c, argC_l (pureO _), argC_I, argC_I, argC_c, trivial⟩
/-- None: not long. -/
def LenA (a : AudD) : Prop := a.told.length ≤ 1000000000 ∧ a.use.length ≤ 1000000000 ∧ a.inc.length ≤ 1000000000
def NoneA (a : AudD) : Prop := (a.y = 0 ∧ a.p = 0) ∧ a.told.length = 0 ∧ a.use.length = 0 ∧ a.inc.length = 0 ∧ a.mv = false
instance (a : AudD) : Decidable (NoneA a) := by unfold NoneA; infer_instance
theorem none_call (a : AudD) (h : LenA a) : PCall Try.prog 54 [AudV a] (.c (.bool (decide (NoneA a)))) := by
  obtain ⟨h1, h2, h3⟩ := h
  have e1 : IntKind.i64.wrap ((a.told.length : Int) + a.use.length) = (a.told.length : Int) + a.use.length := wrap_i64 (by omega) (by omega)
  have e2 : IntKind.i64.wrap ((a.told.length : Int) + a.use.length + a.inc.length) = (a.told.length : Int) + a.use.length + a.inc.length := wrap_i64 (by omega) (by omega)
  refine pcall_body tabOk Try.func54 rfl rfl (by rw [Try.ntmps54]; simp) ?_
  simp only [Try.ntmps54, AudV]
  simp only [↓wt, wu, wk0, wk1, wk2, wk3, Nat.reduceAdd, Nat.reduceEqDiff, Nat.reduceLeDiff, Nat.reduceLT, Nat.reduceMul, Int.reduceLE, Int.reduceLT, Int.reduceEq, Int.reduceNe, wk4, laidS, keepS, look_eql, e1, e2]
  repeat' (first | (refine r_casesD (fun hp hb => ?_) (fun hp hb => ?_) <;> simp only [↓wt, wu, wk0, wk1, wk2, wk3, Nat.reduceAdd, Nat.reduceEqDiff, Nat.reduceLeDiff, Nat.reduceLT, Nat.reduceMul, Int.reduceLE, Int.reduceLT, Int.reduceEq, Int.reduceNe, wk4, laidS, keepS, look_eql, e1, e2, Try.results54, hb]) | (refine r_casesN (fun hp hb => ?_) (fun hp hb => ?_) <;> simp only [↓wt, wu, wk0, wk1, wk2, wk3, Nat.reduceAdd, Nat.reduceEqDiff, Nat.reduceLeDiff, Nat.reduceLT, Nat.reduceMul, Int.reduceLE, Int.reduceLT, Int.reduceEq, Int.reduceNe, wk4, laidS, keepS, look_eql, e1, e2, Try.results54, hb]) | (refine r_casesM (fun hp hb => ?_) (fun hp hb => ?_) <;> simp only [↓wt, wu, wk0, wk1, wk2, wk3, Nat.reduceAdd, Nat.reduceEqDiff, Nat.reduceLeDiff, Nat.reduceLT, Nat.reduceMul, Int.reduceLE, Int.reduceLT, Int.reduceEq, Int.reduceNe, wk4, laidS, keepS, look_eql, e1, e2, Try.results54, hb]) | (refine r_casesB (fun hp hb => ?_) (fun hp hb => ?_) <;> simp only [↓wt, wu, wk0, wk1, wk2, wk3, Nat.reduceAdd, Nat.reduceEqDiff, Nat.reduceLeDiff, Nat.reduceLT, Nat.reduceMul, Int.reduceLE, Int.reduceLT, Int.reduceEq, Int.reduceNe, wk4, laidS, keepS, look_eql, e1, e2, Try.results54, hb]) | (refine r_gcasesD (fun hp hb => ?_) (fun hp hb => ?_) <;> simp only [↓wt, wu, wk0, wk1, wk2, wk3, Nat.reduceAdd, Nat.reduceEqDiff, Nat.reduceLeDiff, Nat.reduceLT, Nat.reduceMul, Int.reduceLE, Int.reduceLT, Int.reduceEq, Int.reduceNe, wk4, laidS, keepS, look_eql, e1, e2, Try.results54, hb]) | (refine r_gcasesN (fun hp hb => ?_) (fun hp hb => ?_) <;> simp only [↓wt, wu, wk0, wk1, wk2, wk3, Nat.reduceAdd, Nat.reduceEqDiff, Nat.reduceLeDiff, Nat.reduceLT, Nat.reduceMul, Int.reduceLE, Int.reduceLT, Int.reduceEq, Int.reduceNe, wk4, laidS, keepS, look_eql, e1, e2, Try.results54, hb]) | (refine r_gcasesM (fun hp hb => ?_) (fun hp hb => ?_) <;> simp only [↓wt, wu, wk0, wk1, wk2, wk3, Nat.reduceAdd, Nat.reduceEqDiff, Nat.reduceLeDiff, Nat.reduceLT, Nat.reduceMul, Int.reduceLE, Int.reduceLT, Int.reduceEq, Int.reduceNe, wk4, laidS, keepS, look_eql, e1, e2, Try.results54, hb]) | (refine r_gcasesB (fun hp hb => ?_) (fun hp hb => ?_) <;> simp only [↓wt, wu, wk0, wk1, wk2, wk3, Nat.reduceAdd, Nat.reduceEqDiff, Nat.reduceLeDiff, Nat.reduceLT, Nat.reduceMul, Int.reduceLE, Int.reduceLT, Int.reduceEq, Int.reduceNe, wk4, laidS, keepS, look_eql, e1, e2, Try.results54, hb]) | ((with_reducible refine And.intro ?_ ?_); omega) | fail)
  · cases hm : a.mv
    · exact exp_bw (decide_eq_true (p := NoneA a) ⟨by assumption, by omega, by omega, by omega, hm⟩).symm
    · exact exp_bw (decide_eq_false (p := NoneA a) fun h => by have := h.2.2.2.2; rw [hm] at this; cases this).symm
  all_goals exact exp_bF (p := NoneA a) fun h => by obtain ⟨g1, g2, g3, g4, g5⟩ := h; first | omega | contradiction
theorem rnone_call (a : AudD) : PCall Try.prog 31 [AudV a] (.c (.bool (decide (NoneA a)))) := by
  refine pcall_body tabOk Try.func31 rfl rfl (by rw [Try.ntmps31]; simp) ?_
  simp only [Try.ntmps31, AudV]
  simp only [↓wt, wu, wk0, wk1, wk2, wk3, Nat.reduceAdd, Nat.reduceEqDiff, Nat.reduceLeDiff, Nat.reduceLT, Nat.reduceMul, Int.reduceLE, Int.reduceLT, Int.reduceEq, Int.reduceNe, wk4, laidS, keepS]
  repeat' (first | (refine r_casesD (fun hp hb => ?_) (fun hp hb => ?_) <;> simp only [↓wt, wu, wk0, wk1, wk2, wk3, Nat.reduceAdd, Nat.reduceEqDiff, Nat.reduceLeDiff, Nat.reduceLT, Nat.reduceMul, Int.reduceLE, Int.reduceLT, Int.reduceEq, Int.reduceNe, wk4, laidS, keepS, Try.results31, hb]) | (refine r_casesN (fun hp hb => ?_) (fun hp hb => ?_) <;> simp only [↓wt, wu, wk0, wk1, wk2, wk3, Nat.reduceAdd, Nat.reduceEqDiff, Nat.reduceLeDiff, Nat.reduceLT, Nat.reduceMul, Int.reduceLE, Int.reduceLT, Int.reduceEq, Int.reduceNe, wk4, laidS, keepS, Try.results31, hb]) | (refine r_casesM (fun hp hb => ?_) (fun hp hb => ?_) <;> simp only [↓wt, wu, wk0, wk1, wk2, wk3, Nat.reduceAdd, Nat.reduceEqDiff, Nat.reduceLeDiff, Nat.reduceLT, Nat.reduceMul, Int.reduceLE, Int.reduceLT, Int.reduceEq, Int.reduceNe, wk4, laidS, keepS, Try.results31, hb]) | (refine r_casesB (fun hp hb => ?_) (fun hp hb => ?_) <;> simp only [↓wt, wu, wk0, wk1, wk2, wk3, Nat.reduceAdd, Nat.reduceEqDiff, Nat.reduceLeDiff, Nat.reduceLT, Nat.reduceMul, Int.reduceLE, Int.reduceLT, Int.reduceEq, Int.reduceNe, wk4, laidS, keepS, Try.results31, hb]) | (refine r_gcasesD (fun hp hb => ?_) (fun hp hb => ?_) <;> simp only [↓wt, wu, wk0, wk1, wk2, wk3, Nat.reduceAdd, Nat.reduceEqDiff, Nat.reduceLeDiff, Nat.reduceLT, Nat.reduceMul, Int.reduceLE, Int.reduceLT, Int.reduceEq, Int.reduceNe, wk4, laidS, keepS, Try.results31, hb]) | (refine r_gcasesN (fun hp hb => ?_) (fun hp hb => ?_) <;> simp only [↓wt, wu, wk0, wk1, wk2, wk3, Nat.reduceAdd, Nat.reduceEqDiff, Nat.reduceLeDiff, Nat.reduceLT, Nat.reduceMul, Int.reduceLE, Int.reduceLT, Int.reduceEq, Int.reduceNe, wk4, laidS, keepS, Try.results31, hb]) | (refine r_gcasesM (fun hp hb => ?_) (fun hp hb => ?_) <;> simp only [↓wt, wu, wk0, wk1, wk2, wk3, Nat.reduceAdd, Nat.reduceEqDiff, Nat.reduceLeDiff, Nat.reduceLT, Nat.reduceMul, Int.reduceLE, Int.reduceLT, Int.reduceEq, Int.reduceNe, wk4, laidS, keepS, Try.results31, hb]) | (refine r_gcasesB (fun hp hb => ?_) (fun hp hb => ?_) <;> simp only [↓wt, wu, wk0, wk1, wk2, wk3, Nat.reduceAdd, Nat.reduceEqDiff, Nat.reduceLeDiff, Nat.reduceLT, Nat.reduceMul, Int.reduceLE, Int.reduceLT, Int.reduceEq, Int.reduceNe, wk4, laidS, keepS, Try.results31, hb]) | ((with_reducible refine And.intro ?_ ?_); omega) | fail)
  · cases hm : a.mv
    · exact exp_bw (decide_eq_true (p := NoneA a) ⟨⟨by assumption, by assumption⟩, by omega, by omega, by omega, hm⟩).symm
    · exact exp_bw (decide_eq_false (p := NoneA a) fun h => by have := h.2.2.2.2; rw [hm] at this; cases this).symm
  all_goals exact exp_bF (p := NoneA a) fun h => by obtain ⟨⟨g0, g1⟩, g2, g3, g4, g5⟩ := h; first | omega | contradiction
/-- Numbers of rows. -/
def bad40 (v : Int) : Bool := decide (¬ Within v 1099511627776)
def Amts (l : List Int) : Prop := ∀ v ∈ l, Within v 1099511627776
instance (l : List Int) : Decidable (Amts l) := by unfold Amts; infer_instance
theorem amts_any {l : List Int} : (!l.any bad40) = decide (Amts l) := by
  rw [Bool.eq_iff_iff, decide_eq_true_iff]
  simp [Amts, bad40]
theorem amtf_call (v : Int) : PCall Try.prog 75 [.c (.int .i64 v)] (.c (.bool (bad40 v))) := by
  refine pcall_body tabOk Try.func75 rfl rfl (by rw [Try.ntmps75]; simp) ?_
  simp only [Try.ntmps75]
  simp only [↓wt, wu, wk0, wk1, wk2, wk3, Nat.reduceAdd, Nat.reduceEqDiff, Nat.reduceLeDiff, Nat.reduceLT, Nat.reduceMul, Int.reduceLE, Int.reduceLT, Int.reduceEq, Int.reduceNe, wk4, laidS, keepS]
  repeat' (first | (refine r_casesD (fun hp hb => ?_) (fun hp hb => ?_) <;> simp only [↓wt, wu, wk0, wk1, wk2, wk3, Nat.reduceAdd, Nat.reduceEqDiff, Nat.reduceLeDiff, Nat.reduceLT, Nat.reduceMul, Int.reduceLE, Int.reduceLT, Int.reduceEq, Int.reduceNe, wk4, laidS, keepS, Try.results75, hb]) | (refine r_casesN (fun hp hb => ?_) (fun hp hb => ?_) <;> simp only [↓wt, wu, wk0, wk1, wk2, wk3, Nat.reduceAdd, Nat.reduceEqDiff, Nat.reduceLeDiff, Nat.reduceLT, Nat.reduceMul, Int.reduceLE, Int.reduceLT, Int.reduceEq, Int.reduceNe, wk4, laidS, keepS, Try.results75, hb]) | (refine r_casesM (fun hp hb => ?_) (fun hp hb => ?_) <;> simp only [↓wt, wu, wk0, wk1, wk2, wk3, Nat.reduceAdd, Nat.reduceEqDiff, Nat.reduceLeDiff, Nat.reduceLT, Nat.reduceMul, Int.reduceLE, Int.reduceLT, Int.reduceEq, Int.reduceNe, wk4, laidS, keepS, Try.results75, hb]) | (refine r_casesB (fun hp hb => ?_) (fun hp hb => ?_) <;> simp only [↓wt, wu, wk0, wk1, wk2, wk3, Nat.reduceAdd, Nat.reduceEqDiff, Nat.reduceLeDiff, Nat.reduceLT, Nat.reduceMul, Int.reduceLE, Int.reduceLT, Int.reduceEq, Int.reduceNe, wk4, laidS, keepS, Try.results75, hb]) | (refine r_gcasesD (fun hp hb => ?_) (fun hp hb => ?_) <;> simp only [↓wt, wu, wk0, wk1, wk2, wk3, Nat.reduceAdd, Nat.reduceEqDiff, Nat.reduceLeDiff, Nat.reduceLT, Nat.reduceMul, Int.reduceLE, Int.reduceLT, Int.reduceEq, Int.reduceNe, wk4, laidS, keepS, Try.results75, hb]) | (refine r_gcasesN (fun hp hb => ?_) (fun hp hb => ?_) <;> simp only [↓wt, wu, wk0, wk1, wk2, wk3, Nat.reduceAdd, Nat.reduceEqDiff, Nat.reduceLeDiff, Nat.reduceLT, Nat.reduceMul, Int.reduceLE, Int.reduceLT, Int.reduceEq, Int.reduceNe, wk4, laidS, keepS, Try.results75, hb]) | (refine r_gcasesM (fun hp hb => ?_) (fun hp hb => ?_) <;> simp only [↓wt, wu, wk0, wk1, wk2, wk3, Nat.reduceAdd, Nat.reduceEqDiff, Nat.reduceLeDiff, Nat.reduceLT, Nat.reduceMul, Int.reduceLE, Int.reduceLT, Int.reduceEq, Int.reduceNe, wk4, laidS, keepS, Try.results75, hb]) | (refine r_gcasesB (fun hp hb => ?_) (fun hp hb => ?_) <;> simp only [↓wt, wu, wk0, wk1, wk2, wk3, Nat.reduceAdd, Nat.reduceEqDiff, Nat.reduceLeDiff, Nat.reduceLT, Nat.reduceMul, Int.reduceLE, Int.reduceLT, Int.reduceEq, Int.reduceNe, wk4, laidS, keepS, Try.results75, hb]) | ((with_reducible refine And.intro ?_ ?_); omega) | fail)
  · exact exp_bT (p := ¬ Within v 1099511627776) (by unfold Within; omega)
  · exact exp_bE (p := ¬ Within v 1099511627776) (by unfold Within; omega)
theorem index40_call (o : List Int) (hl : o.length ≤ 1000000000) : PCall Try.prog 78 [.l 1 (o.map encI), .f 75 []] (.c (.int .i64 (idxA bad40 o 0))) := by
  refine pcall_body tabOk Try.func78 rfl rfl (by rw [Try.ntmps78]; simp) ?_
  simp only [Try.ntmps78]
  simp only [↓wt, wu, wk0, wk1, wk2, wk3, Nat.reduceAdd, Nat.reduceEqDiff, Nat.reduceLeDiff, Nat.reduceLT, Nat.reduceMul, Int.reduceLE, Int.reduceLT, Int.reduceEq, Int.reduceNe, wk4, laidS, keepS]
  refine loop_ruleC tabOk [0, 1, 7] (fun k : Nat => [(8, .c (.int .i64 k))]) (fun k => k ≤ o.length ∧ ∀ n, n < k → bad40 (o.getD n 0) = false) (fun k => o.length - k) 0 ⟨by omega, fun n h => by omega⟩ ?_ ?_
  · simp only [↓wt, wu, wk0, wk1, wk2, wk3, wkf, Nat.reduceAdd, Nat.reduceEqDiff, Nat.reduceLeDiff, Nat.reduceLT, Nat.reduceMul, Int.reduceLE, Int.reduceLT, Int.reduceEq, Int.reduceNe, wk4, laidS, keepS, underL_I, under_f]
    try trivial
  · rintro k ⟨h1, h2⟩
    simp only [↓wt, wu, wk0, wk1, wk2, wk3, Nat.reduceAdd, Nat.reduceEqDiff, Nat.reduceLeDiff, Nat.reduceLT, Nat.reduceMul, Int.reduceLE, Int.reduceLT, Int.reduceEq, Int.reduceNe, wk4, laidS, keepS]
    repeat' (first | (refine r_casesD (fun hp hb => ?_) (fun hp hb => ?_) <;> simp only [↓wt, wu, wk0, wk1, wk2, wk3, Nat.reduceAdd, Nat.reduceEqDiff, Nat.reduceLeDiff, Nat.reduceLT, Nat.reduceMul, Int.reduceLE, Int.reduceLT, Int.reduceEq, Int.reduceNe, wk4, laidS, keepS, hb]) | (refine r_casesN (fun hp hb => ?_) (fun hp hb => ?_) <;> simp only [↓wt, wu, wk0, wk1, wk2, wk3, Nat.reduceAdd, Nat.reduceEqDiff, Nat.reduceLeDiff, Nat.reduceLT, Nat.reduceMul, Int.reduceLE, Int.reduceLT, Int.reduceEq, Int.reduceNe, wk4, laidS, keepS, hb]) | (refine r_casesM (fun hp hb => ?_) (fun hp hb => ?_) <;> simp only [↓wt, wu, wk0, wk1, wk2, wk3, Nat.reduceAdd, Nat.reduceEqDiff, Nat.reduceLeDiff, Nat.reduceLT, Nat.reduceMul, Int.reduceLE, Int.reduceLT, Int.reduceEq, Int.reduceNe, wk4, laidS, keepS, hb]) | (refine r_casesB (fun hp hb => ?_) (fun hp hb => ?_) <;> simp only [↓wt, wu, wk0, wk1, wk2, wk3, Nat.reduceAdd, Nat.reduceEqDiff, Nat.reduceLeDiff, Nat.reduceLT, Nat.reduceMul, Int.reduceLE, Int.reduceLT, Int.reduceEq, Int.reduceNe, wk4, laidS, keepS, hb]) | (refine r_gcasesD (fun hp hb => ?_) (fun hp hb => ?_) <;> simp only [↓wt, wu, wk0, wk1, wk2, wk3, Nat.reduceAdd, Nat.reduceEqDiff, Nat.reduceLeDiff, Nat.reduceLT, Nat.reduceMul, Int.reduceLE, Int.reduceLT, Int.reduceEq, Int.reduceNe, wk4, laidS, keepS, hb]) | (refine r_gcasesN (fun hp hb => ?_) (fun hp hb => ?_) <;> simp only [↓wt, wu, wk0, wk1, wk2, wk3, Nat.reduceAdd, Nat.reduceEqDiff, Nat.reduceLeDiff, Nat.reduceLT, Nat.reduceMul, Int.reduceLE, Int.reduceLT, Int.reduceEq, Int.reduceNe, wk4, laidS, keepS, hb]) | (refine r_gcasesM (fun hp hb => ?_) (fun hp hb => ?_) <;> simp only [↓wt, wu, wk0, wk1, wk2, wk3, Nat.reduceAdd, Nat.reduceEqDiff, Nat.reduceLeDiff, Nat.reduceLT, Nat.reduceMul, Int.reduceLE, Int.reduceLT, Int.reduceEq, Int.reduceNe, wk4, laidS, keepS, hb]) | (refine r_gcasesB (fun hp hb => ?_) (fun hp hb => ?_) <;> simp only [↓wt, wu, wk0, wk1, wk2, wk3, Nat.reduceAdd, Nat.reduceEqDiff, Nat.reduceLeDiff, Nat.reduceLT, Nat.reduceMul, Int.reduceLE, Int.reduceLT, Int.reduceEq, Int.reduceNe, wk4, laidS, keepS, hb]) | ((with_reducible refine And.intro ?_ ?_); omega) | fail)
    · have hkl : k < o.length := by omega
      have e1 := wi_succ (k := k) (by omega)
      repeat (refine And.intro (by omega) ?_)
      refine icall_drop [] (amtf_call (o.getD k 0)) ⟨arg_c, trivial⟩ (.c _) ?_
      simp only [↓wt, wu, wk0, wk1, wk2, wk3, Nat.reduceAdd, Nat.reduceEqDiff, Nat.reduceLeDiff, Nat.reduceLT, Nat.reduceMul, Int.reduceLE, Int.reduceLT, Int.reduceEq, Int.reduceNe, wk4, laidS, keepS]
      cases f1 : bad40 (o.getD k 0) with
      | true =>
        simp only [↓wt, wu, wk0, wk1, wk2, wk3, Nat.reduceAdd, Nat.reduceEqDiff, Nat.reduceLeDiff, Nat.reduceLT, Nat.reduceMul, Int.reduceLE, Int.reduceLT, Int.reduceEq, Int.reduceNe, wk4, laidS, keepS, f1, Try.results78]
        rw [idxA_at (d := 0) o k 0 (by omega) h2 f1, Nat.zero_add]
        exact exp_c
      | false =>
        simp only [↓wt, wu, wk0, wk1, wk2, wk3, Nat.reduceAdd, Nat.reduceEqDiff, Nat.reduceLeDiff, Nat.reduceLT, Nat.reduceMul, Int.reduceLE, Int.reduceLT, Int.reduceEq, Int.reduceNe, wk4, laidS, keepS, f1, e1]
        refine ⟨k + 1, ⟨by omega, fun n hn => ?_⟩, by omega, ?_⟩
        · rcases Nat.lt_or_ge n k with h | h
          · exact h2 n h
          · have : n = k := by omega
            subst this; exact f1
        · simp only [↓wt, wu, wk0, wk1, wk2, wk3, wkf, Nat.reduceAdd, Nat.reduceEqDiff, Nat.reduceLeDiff, Nat.reduceLT, Nat.reduceMul, Int.reduceLE, Int.reduceLT, Int.reduceEq, Int.reduceNe, wk4, laidS, keepS, e1, underL_I, under_f]
          try trivial
    · simp only [↓wt, wu, wk0, wk1, wk2, wk3, Nat.reduceAdd, Nat.reduceEqDiff, Nat.reduceLeDiff, Nat.reduceLT, Nat.reduceMul, Int.reduceLE, Int.reduceLT, Int.reduceEq, Int.reduceNe, wk4, laidS, keepS, Try.results78]
      rw [idxA_none (d := 0) o 0 fun j hj => h2 j (by omega)]
      exact exp_c
theorem contains40_call (o : List Int) (hl : o.length ≤ 1000000000) : PCall Try.prog 70 [.l 1 (o.map encI), .f 75 []] (.c (.bool (o.any bad40))) := by
  refine pcall_body tabOk Try.func70 rfl rfl (by rw [Try.ntmps70]; simp) ?_
  simp only [Try.ntmps70]
  simp only [↓wt, wu, wk0, wk1, wk2, wk3, Nat.reduceAdd, Nat.reduceEqDiff, Nat.reduceLeDiff, Nat.reduceLT, Nat.reduceMul, Int.reduceLE, Int.reduceLT, Int.reduceEq, Int.reduceNe, wk4, laidS, keepS]
  refine icall_drop [] (index40_call o hl) ⟨arg_l (pureI _), arg_f, trivial⟩ (.c _) ?_
  simp only [↓wt, wu, wk0, wk1, wk2, wk3, Nat.reduceAdd, Nat.reduceEqDiff, Nat.reduceLeDiff, Nat.reduceLT, Nat.reduceMul, Int.reduceLE, Int.reduceLT, Int.reduceEq, Int.reduceNe, wk4, laidS, keepS, idxA_any, Try.results70]
  exact exp_c
theorem amounts_call (o : List Int) (hl : o.length ≤ 1000000000) : PCall Try.prog 62 [.l 1 (o.map encI)] (.c (.bool (decide (Amts o)))) := by
  refine pcall_body tabOk Try.func62 rfl rfl (by rw [Try.ntmps62]; simp) ?_
  simp only [Try.ntmps62]
  simp only [↓wt, wu, wk0, wk1, wk2, wk3, Nat.reduceAdd, Nat.reduceEqDiff, Nat.reduceLeDiff, Nat.reduceLT, Nat.reduceMul, Int.reduceLE, Int.reduceLT, Int.reduceEq, Int.reduceNe, wk4, laidS, keepS]
  refine icall_drop [] (contains40_call o hl) ⟨arg_l (pureI _), arg_f, trivial⟩ (.c _) ?_
  simp only [↓wt, wu, wk0, wk1, wk2, wk3, Nat.reduceAdd, Nat.reduceEqDiff, Nat.reduceLeDiff, Nat.reduceLT, Nat.reduceMul, Int.reduceLE, Int.reduceLT, Int.reduceEq, Int.reduceNe, wk4, laidS, keepS, amts_any, Try.results62]
  exact exp_c
theorem athere_call (c : Conf) (who : Int) : PCall Try.prog 50 [ConfA c, .c (.int .i64 who)] (.c (.bool (decide (ThereC c who)))) := by
  refine pcall_body tabOk Try.func50 rfl rfl (by rw [Try.ntmps50]; simp) ?_
  simp only [Try.ntmps50, ConfA]
  simp only [↓wt, wu, wk0, wk1, wk2, wk3, Nat.reduceAdd, Nat.reduceEqDiff, Nat.reduceLeDiff, Nat.reduceLT, Nat.reduceMul, Int.reduceLE, Int.reduceLT, Int.reduceEq, Int.reduceNe, wk4, laidS, keepS]
  refine icall_drop [] (rtmay_call c) ⟨arg_conf', trivial⟩ (.c _) ?_
  simp only [↓wt, wu, wk0, wk1, wk2, wk3, Nat.reduceAdd, Nat.reduceEqDiff, Nat.reduceLeDiff, Nat.reduceLT, Nat.reduceMul, Int.reduceLE, Int.reduceLT, Int.reduceEq, Int.reduceNe, wk4, laidS, keepS]
  repeat' (first | (refine r_casesD (fun hp hb => ?_) (fun hp hb => ?_) <;> simp only [↓wt, wu, wk0, wk1, wk2, wk3, Nat.reduceAdd, Nat.reduceEqDiff, Nat.reduceLeDiff, Nat.reduceLT, Nat.reduceMul, Int.reduceLE, Int.reduceLT, Int.reduceEq, Int.reduceNe, wk4, laidS, keepS, Try.results50, hb]) | (refine r_casesN (fun hp hb => ?_) (fun hp hb => ?_) <;> simp only [↓wt, wu, wk0, wk1, wk2, wk3, Nat.reduceAdd, Nat.reduceEqDiff, Nat.reduceLeDiff, Nat.reduceLT, Nat.reduceMul, Int.reduceLE, Int.reduceLT, Int.reduceEq, Int.reduceNe, wk4, laidS, keepS, Try.results50, hb]) | (refine r_casesM (fun hp hb => ?_) (fun hp hb => ?_) <;> simp only [↓wt, wu, wk0, wk1, wk2, wk3, Nat.reduceAdd, Nat.reduceEqDiff, Nat.reduceLeDiff, Nat.reduceLT, Nat.reduceMul, Int.reduceLE, Int.reduceLT, Int.reduceEq, Int.reduceNe, wk4, laidS, keepS, Try.results50, hb]) | (refine r_casesB (fun hp hb => ?_) (fun hp hb => ?_) <;> simp only [↓wt, wu, wk0, wk1, wk2, wk3, Nat.reduceAdd, Nat.reduceEqDiff, Nat.reduceLeDiff, Nat.reduceLT, Nat.reduceMul, Int.reduceLE, Int.reduceLT, Int.reduceEq, Int.reduceNe, wk4, laidS, keepS, Try.results50, hb]) | (refine r_gcasesD (fun hp hb => ?_) (fun hp hb => ?_) <;> simp only [↓wt, wu, wk0, wk1, wk2, wk3, Nat.reduceAdd, Nat.reduceEqDiff, Nat.reduceLeDiff, Nat.reduceLT, Nat.reduceMul, Int.reduceLE, Int.reduceLT, Int.reduceEq, Int.reduceNe, wk4, laidS, keepS, Try.results50, hb]) | (refine r_gcasesN (fun hp hb => ?_) (fun hp hb => ?_) <;> simp only [↓wt, wu, wk0, wk1, wk2, wk3, Nat.reduceAdd, Nat.reduceEqDiff, Nat.reduceLeDiff, Nat.reduceLT, Nat.reduceMul, Int.reduceLE, Int.reduceLT, Int.reduceEq, Int.reduceNe, wk4, laidS, keepS, Try.results50, hb]) | (refine r_gcasesM (fun hp hb => ?_) (fun hp hb => ?_) <;> simp only [↓wt, wu, wk0, wk1, wk2, wk3, Nat.reduceAdd, Nat.reduceEqDiff, Nat.reduceLeDiff, Nat.reduceLT, Nat.reduceMul, Int.reduceLE, Int.reduceLT, Int.reduceEq, Int.reduceNe, wk4, laidS, keepS, Try.results50, hb]) | (refine r_gcasesB (fun hp hb => ?_) (fun hp hb => ?_) <;> simp only [↓wt, wu, wk0, wk1, wk2, wk3, Nat.reduceAdd, Nat.reduceEqDiff, Nat.reduceLeDiff, Nat.reduceLT, Nat.reduceMul, Int.reduceLE, Int.reduceLT, Int.reduceEq, Int.reduceNe, wk4, laidS, keepS, Try.results50, hb]) | ((with_reducible refine And.intro ?_ ?_); omega) | fail)
  · exact exp_bE ⟨fun h => ⟨by assumption, by unfold There; omega⟩, fun h => h.2.2⟩
  all_goals exact exp_bF (p := ThereC c who) fun h => by obtain ⟨g1, g2⟩ := h; unfold There at g2; first | omega | contradiction
/-- An audit that isn't none, of a replica. -/
def RunA (c : Conf) (who : Int) (a : AudD) : Prop :=
  (1 ≤ a.y ∧ a.y ≤ 1125899906842624 ∧ 1 ≤ a.p ∧ a.p ≤ 2) ∧ ((a.told.length : Int) = c.n ∧ (a.use.length : Int) = c.n ∧ (a.inc.length : Int) = c.n) ∧ a.told.getD who.toNat false = false ∧ Amts a.use ∧ Amts a.inc
instance (c : Conf) (who : Int) (a : AudD) : Decidable (RunA c who a) := by unfold RunA; infer_instance
def MayA (c : Conf) (who : Int) (a : AudD) : Prop := ThereC c who ∧ (NoneA a ∨ RunA c who a)
instance (c : Conf) (who : Int) (a : AudD) : Decidable (MayA c who a) := by unfold MayA; infer_instance
set_option maxHeartbeats 4000000 in
theorem maya_call (c : Conf) (who : Int) (a : AudD) (hl : LenA a) : PCall Try.prog 51 [ConfA c, .c (.int .i64 who), AudV a] (.c (.bool (decide (MayA c who a)))) := by
  refine pcall_body tabOk Try.func51 rfl rfl (by rw [Try.ntmps51]; simp) ?_
  simp only [Try.ntmps51, ConfA, AudV]
  simp only [↓wt, wu, wk0, wk1, wk2, wk3, Nat.reduceAdd, Nat.reduceEqDiff, Nat.reduceLeDiff, Nat.reduceLT, Nat.reduceMul, Int.reduceLE, Int.reduceLT, Int.reduceEq, Int.reduceNe, wk4, laidS, keepS]
  refine icall_drop [] (athere_call c who) ⟨arg_conf', arg_c, trivial⟩ (.c _) ?_
  simp only [↓wt, wu, wk0, wk1, wk2, wk3, Nat.reduceAdd, Nat.reduceEqDiff, Nat.reduceLeDiff, Nat.reduceLT, Nat.reduceMul, Int.reduceLE, Int.reduceLT, Int.reduceEq, Int.reduceNe, wk4, laidS, keepS]
  refine r_casesN (fun hth hb => ?_) (fun hth hb => ?_) <;> simp only [↓wt, wu, wk0, wk1, wk2, wk3, Nat.reduceAdd, Nat.reduceEqDiff, Nat.reduceLeDiff, Nat.reduceLT, Nat.reduceMul, Int.reduceLE, Int.reduceLT, Int.reduceEq, Int.reduceNe, wk4, laidS, keepS, hb]
  rotate_left
  · simp only [↓wt, wu, wk0, wk1, wk2, wk3, Nat.reduceAdd, Nat.reduceEqDiff, Nat.reduceLeDiff, Nat.reduceLT, Nat.reduceMul, Int.reduceLE, Int.reduceLT, Int.reduceEq, Int.reduceNe, wk4, laidS, keepS, Try.results51]
    exact exp_bF (p := MayA c who a) fun h => hth h.1
  refine icall_drop [] (none_call a hl) ⟨arg_aud, trivial⟩ (.c _) ?_
  simp only [↓wt, wu, wk0, wk1, wk2, wk3, Nat.reduceAdd, Nat.reduceEqDiff, Nat.reduceLeDiff, Nat.reduceLT, Nat.reduceMul, Int.reduceLE, Int.reduceLT, Int.reduceEq, Int.reduceNe, wk4, laidS, keepS]
  refine r_casesD (fun hno hb => ?_) (fun hno hb => ?_) <;> simp only [↓wt, wu, wk0, wk1, wk2, wk3, Nat.reduceAdd, Nat.reduceEqDiff, Nat.reduceLeDiff, Nat.reduceLT, Nat.reduceMul, Int.reduceLE, Int.reduceLT, Int.reduceEq, Int.reduceNe, wk4, laidS, keepS, hb]
  · simp only [↓wt, wu, wk0, wk1, wk2, wk3, Nat.reduceAdd, Nat.reduceEqDiff, Nat.reduceLeDiff, Nat.reduceLT, Nat.reduceMul, Int.reduceLE, Int.reduceLT, Int.reduceEq, Int.reduceNe, wk4, laidS, keepS, Try.results51]
    exact exp_bT (p := MayA c who a) ⟨hth, .inl hno⟩
  have hw : 0 ≤ who ∧ who < c.n := hth.2
  have hmn : MayA c who a ↔ RunA c who a := ⟨fun h => h.2.resolve_left hno, fun h => ⟨hth, .inr h⟩⟩
  repeat' (first | (refine r_casesD (fun hp hb => ?_) (fun hp hb => ?_) <;> simp only [↓wt, wu, wk0, wk1, wk2, wk3, Nat.reduceAdd, Nat.reduceEqDiff, Nat.reduceLeDiff, Nat.reduceLT, Nat.reduceMul, Int.reduceLE, Int.reduceLT, Int.reduceEq, Int.reduceNe, wk4, laidS, keepS, elem_O, Try.results51, hb]) | (refine r_casesN (fun hp hb => ?_) (fun hp hb => ?_) <;> simp only [↓wt, wu, wk0, wk1, wk2, wk3, Nat.reduceAdd, Nat.reduceEqDiff, Nat.reduceLeDiff, Nat.reduceLT, Nat.reduceMul, Int.reduceLE, Int.reduceLT, Int.reduceEq, Int.reduceNe, wk4, laidS, keepS, elem_O, Try.results51, hb]) | (refine r_casesM (fun hp hb => ?_) (fun hp hb => ?_) <;> simp only [↓wt, wu, wk0, wk1, wk2, wk3, Nat.reduceAdd, Nat.reduceEqDiff, Nat.reduceLeDiff, Nat.reduceLT, Nat.reduceMul, Int.reduceLE, Int.reduceLT, Int.reduceEq, Int.reduceNe, wk4, laidS, keepS, elem_O, Try.results51, hb]) | (refine r_casesB (fun hp hb => ?_) (fun hp hb => ?_) <;> simp only [↓wt, wu, wk0, wk1, wk2, wk3, Nat.reduceAdd, Nat.reduceEqDiff, Nat.reduceLeDiff, Nat.reduceLT, Nat.reduceMul, Int.reduceLE, Int.reduceLT, Int.reduceEq, Int.reduceNe, wk4, laidS, keepS, elem_O, Try.results51, hb]) | (refine r_gcasesD (fun hp hb => ?_) (fun hp hb => ?_) <;> simp only [↓wt, wu, wk0, wk1, wk2, wk3, Nat.reduceAdd, Nat.reduceEqDiff, Nat.reduceLeDiff, Nat.reduceLT, Nat.reduceMul, Int.reduceLE, Int.reduceLT, Int.reduceEq, Int.reduceNe, wk4, laidS, keepS, elem_O, Try.results51, hb]) | (refine r_gcasesN (fun hp hb => ?_) (fun hp hb => ?_) <;> simp only [↓wt, wu, wk0, wk1, wk2, wk3, Nat.reduceAdd, Nat.reduceEqDiff, Nat.reduceLeDiff, Nat.reduceLT, Nat.reduceMul, Int.reduceLE, Int.reduceLT, Int.reduceEq, Int.reduceNe, wk4, laidS, keepS, elem_O, Try.results51, hb]) | (refine r_gcasesM (fun hp hb => ?_) (fun hp hb => ?_) <;> simp only [↓wt, wu, wk0, wk1, wk2, wk3, Nat.reduceAdd, Nat.reduceEqDiff, Nat.reduceLeDiff, Nat.reduceLT, Nat.reduceMul, Int.reduceLE, Int.reduceLT, Int.reduceEq, Int.reduceNe, wk4, laidS, keepS, elem_O, Try.results51, hb]) | (refine r_gcasesB (fun hp hb => ?_) (fun hp hb => ?_) <;> simp only [↓wt, wu, wk0, wk1, wk2, wk3, Nat.reduceAdd, Nat.reduceEqDiff, Nat.reduceLeDiff, Nat.reduceLT, Nat.reduceMul, Int.reduceLE, Int.reduceLT, Int.reduceEq, Int.reduceNe, wk4, laidS, keepS, elem_O, Try.results51, hb]) | ((with_reducible refine And.intro ?_ ?_); omega) | fail)
  all_goals try exact exp_bF (p := MayA c who a) fun h => by obtain ⟨⟨g1, g2, g3, g4⟩, ⟨g5, g6, g7⟩, g8, g9, g10⟩ := hmn.1 h; first | omega | contradiction | (rw [hp] at g8; cases g8)
  have htl := hp
  refine icall_drop [] (amounts_call a.use hl.2.1) ⟨arg_l (pureI _), trivial⟩ (.c _) ?_
  simp only [↓wt, wu, wk0, wk1, wk2, wk3, Nat.reduceAdd, Nat.reduceEqDiff, Nat.reduceLeDiff, Nat.reduceLT, Nat.reduceMul, Int.reduceLE, Int.reduceLT, Int.reduceEq, Int.reduceNe, wk4, laidS, keepS]
  repeat' (first | (refine r_casesD (fun hp hb => ?_) (fun hp hb => ?_) <;> simp only [↓wt, wu, wk0, wk1, wk2, wk3, Nat.reduceAdd, Nat.reduceEqDiff, Nat.reduceLeDiff, Nat.reduceLT, Nat.reduceMul, Int.reduceLE, Int.reduceLT, Int.reduceEq, Int.reduceNe, wk4, laidS, keepS, Try.results51, hb]) | (refine r_casesN (fun hp hb => ?_) (fun hp hb => ?_) <;> simp only [↓wt, wu, wk0, wk1, wk2, wk3, Nat.reduceAdd, Nat.reduceEqDiff, Nat.reduceLeDiff, Nat.reduceLT, Nat.reduceMul, Int.reduceLE, Int.reduceLT, Int.reduceEq, Int.reduceNe, wk4, laidS, keepS, Try.results51, hb]) | (refine r_casesM (fun hp hb => ?_) (fun hp hb => ?_) <;> simp only [↓wt, wu, wk0, wk1, wk2, wk3, Nat.reduceAdd, Nat.reduceEqDiff, Nat.reduceLeDiff, Nat.reduceLT, Nat.reduceMul, Int.reduceLE, Int.reduceLT, Int.reduceEq, Int.reduceNe, wk4, laidS, keepS, Try.results51, hb]) | (refine r_casesB (fun hp hb => ?_) (fun hp hb => ?_) <;> simp only [↓wt, wu, wk0, wk1, wk2, wk3, Nat.reduceAdd, Nat.reduceEqDiff, Nat.reduceLeDiff, Nat.reduceLT, Nat.reduceMul, Int.reduceLE, Int.reduceLT, Int.reduceEq, Int.reduceNe, wk4, laidS, keepS, Try.results51, hb]) | (refine r_gcasesD (fun hp hb => ?_) (fun hp hb => ?_) <;> simp only [↓wt, wu, wk0, wk1, wk2, wk3, Nat.reduceAdd, Nat.reduceEqDiff, Nat.reduceLeDiff, Nat.reduceLT, Nat.reduceMul, Int.reduceLE, Int.reduceLT, Int.reduceEq, Int.reduceNe, wk4, laidS, keepS, Try.results51, hb]) | (refine r_gcasesN (fun hp hb => ?_) (fun hp hb => ?_) <;> simp only [↓wt, wu, wk0, wk1, wk2, wk3, Nat.reduceAdd, Nat.reduceEqDiff, Nat.reduceLeDiff, Nat.reduceLT, Nat.reduceMul, Int.reduceLE, Int.reduceLT, Int.reduceEq, Int.reduceNe, wk4, laidS, keepS, Try.results51, hb]) | (refine r_gcasesM (fun hp hb => ?_) (fun hp hb => ?_) <;> simp only [↓wt, wu, wk0, wk1, wk2, wk3, Nat.reduceAdd, Nat.reduceEqDiff, Nat.reduceLeDiff, Nat.reduceLT, Nat.reduceMul, Int.reduceLE, Int.reduceLT, Int.reduceEq, Int.reduceNe, wk4, laidS, keepS, Try.results51, hb]) | (refine r_gcasesB (fun hp hb => ?_) (fun hp hb => ?_) <;> simp only [↓wt, wu, wk0, wk1, wk2, wk3, Nat.reduceAdd, Nat.reduceEqDiff, Nat.reduceLeDiff, Nat.reduceLT, Nat.reduceMul, Int.reduceLE, Int.reduceLT, Int.reduceEq, Int.reduceNe, wk4, laidS, keepS, Try.results51, hb]) | ((with_reducible refine And.intro ?_ ?_); omega) | fail)
  rotate_left
  · exact exp_bF (p := MayA c who a) fun h => by obtain ⟨⟨g1, g2, g3, g4⟩, ⟨g5, g6, g7⟩, g8, g9, g10⟩ := hmn.1 h; contradiction
  refine icall_drop [] (amounts_call a.inc hl.2.2) ⟨arg_l (pureI _), trivial⟩ (.c _) ?_
  simp only [↓wt, wu, wk0, wk1, wk2, wk3, Nat.reduceAdd, Nat.reduceEqDiff, Nat.reduceLeDiff, Nat.reduceLT, Nat.reduceMul, Int.reduceLE, Int.reduceLT, Int.reduceEq, Int.reduceNe, wk4, laidS, keepS, Try.results51]
  exact exp_bE ⟨fun h => hmn.2 ⟨⟨by omega, by omega, by omega, by omega⟩, ⟨by assumption, by assumption, by assumption⟩, htl, hp, h⟩, fun h => (hmn.1 h).2.2.2.2⟩
/-- Did all others tell? -/
def AllA (who : Int) (a : AudD) : Prop := (∀ k, k < a.told.length → (k : Int) ≠ who → a.told.getD k false = true) ∧ ¬ NoneA a
instance (who : Int) (a : AudD) : Decidable (AllA who a) := by unfold AllA; infer_instance
theorem all_call (who : Int) (a : AudD) (hl : LenA a) : PCall Try.prog 52 [.c (.int .i64 who), AudV a] (.c (.bool (decide (AllA who a)))) := by
  have hl1 := hl.1
  refine pcall_body tabOk Try.func52 rfl rfl (by rw [Try.ntmps52]; simp) ?_
  simp only [Try.ntmps52, AudV]
  simp only [↓wt, wu, wk0, wk1, wk2, wk3, Nat.reduceAdd, Nat.reduceEqDiff, Nat.reduceLeDiff, Nat.reduceLT, Nat.reduceMul, Int.reduceLE, Int.reduceLT, Int.reduceEq, Int.reduceNe, wk4, laidS, keepS]
  refine freeze_rule 0 [0, 3, 8, 9, 10] (by simp only [↓wt, wu, wk0, wk1, wk2, wk3, Nat.reduceAdd, Nat.reduceEqDiff, Nat.reduceLeDiff, Nat.reduceLT, Nat.reduceMul, Int.reduceLE, Int.reduceLT, Int.reduceEq, Int.reduceNe, wk4, laidS, keepS, underL_O, underL_I]; (try (repeat' (first | (exact fun _ => by simp only [pureL_eq, underL_cons, underL_nil, AV.cells, under_l, under_c, under_g, under_e, under_f, underL_B, underL_I, underL_Bs, under_Bs, List.mem_cons, List.not_mem_nil, or_false, forall_eq_or_imp, forall_eq, and_self, and_true, true_and, underL_O, underL_I]) | ((with_reducible refine And.intro ?_ ?_)) | (intro _) | omega | (simp only [pureL_eq, underL_cons, underL_nil, AV.cells, under_l, under_c, under_g, under_e, under_f, underL_B, underL_I, underL_Bs, under_Bs, List.mem_cons, List.not_mem_nil, or_false, forall_eq_or_imp, forall_eq, and_self, and_true, true_and, underL_O, underL_I])))); done) (by simp only [↓wt, wu, wk0, wk1, wk2, wk3, Nat.reduceAdd, Nat.reduceEqDiff, Nat.reduceLeDiff, Nat.reduceLT, Nat.reduceMul, Int.reduceLE, Int.reduceLT, Int.reduceEq, Int.reduceNe, wk4, laidS, keepS, underL_O, underL_I]; (try (repeat' (first | (exact fun _ => by simp only [pureL_eq, underL_cons, underL_nil, AV.cells, under_l, under_c, under_g, under_e, under_f, underL_B, underL_I, underL_Bs, under_Bs, List.mem_cons, List.not_mem_nil, or_false, forall_eq_or_imp, forall_eq, and_self, and_true, true_and, underL_O, underL_I]) | ((with_reducible refine And.intro ?_ ?_)) | (intro _) | omega | (simp only [pureL_eq, underL_cons, underL_nil, AV.cells, under_l, under_c, under_g, under_e, under_f, underL_B, underL_I, underL_Bs, under_Bs, List.mem_cons, List.not_mem_nil, or_false, forall_eq_or_imp, forall_eq, and_self, and_true, true_and, underL_O, underL_I])))); done) ?_; simp only [↓wt, wu, wk0, wk1, wk2, wk3, Nat.reduceAdd, Nat.reduceEqDiff, Nat.reduceLeDiff, Nat.reduceLT, Nat.reduceMul, Int.reduceLE, Int.reduceLT, Int.reduceEq, Int.reduceNe, wk4, laidS, keepS, underL_O, underL_I]
  refine loop_ruleC tabOk [0, 3, 8, 9] (fun k : Nat => [(10, .c (.int .i64 k))]) (fun k => k ≤ a.told.length ∧ ∀ j, j < k → (j : Int) ≠ who → a.told.getD j false = true) (fun k => a.told.length - k) 0 ⟨by omega, fun n h => by omega⟩ ?_ ?_
  · simp only [↓wt, wu, wk0, wk1, wk2, wk3, wkf, Nat.reduceAdd, Nat.reduceEqDiff, Nat.reduceLeDiff, Nat.reduceLT, Nat.reduceMul, Int.reduceLE, Int.reduceLT, Int.reduceEq, Int.reduceNe, wk4, laidS, keepS, underL_O, underL_I, under_e]
    try trivial
  · rintro k ⟨hk, hG⟩
    simp only [↓wt, wu, wk0, wk1, wk2, wk3, Nat.reduceAdd, Nat.reduceEqDiff, Nat.reduceLeDiff, Nat.reduceLT, Nat.reduceMul, Int.reduceLE, Int.reduceLT, Int.reduceEq, Int.reduceNe, wk4, laidS, keepS]
    repeat' (first | (refine r_casesD (fun hp hb => ?_) (fun hp hb => ?_) <;> simp only [↓wt, wu, wk0, wk1, wk2, wk3, Nat.reduceAdd, Nat.reduceEqDiff, Nat.reduceLeDiff, Nat.reduceLT, Nat.reduceMul, Int.reduceLE, Int.reduceLT, Int.reduceEq, Int.reduceNe, wk4, laidS, keepS, hb]) | (refine r_casesN (fun hp hb => ?_) (fun hp hb => ?_) <;> simp only [↓wt, wu, wk0, wk1, wk2, wk3, Nat.reduceAdd, Nat.reduceEqDiff, Nat.reduceLeDiff, Nat.reduceLT, Nat.reduceMul, Int.reduceLE, Int.reduceLT, Int.reduceEq, Int.reduceNe, wk4, laidS, keepS, hb]) | (refine r_casesM (fun hp hb => ?_) (fun hp hb => ?_) <;> simp only [↓wt, wu, wk0, wk1, wk2, wk3, Nat.reduceAdd, Nat.reduceEqDiff, Nat.reduceLeDiff, Nat.reduceLT, Nat.reduceMul, Int.reduceLE, Int.reduceLT, Int.reduceEq, Int.reduceNe, wk4, laidS, keepS, hb]) | (refine r_casesB (fun hp hb => ?_) (fun hp hb => ?_) <;> simp only [↓wt, wu, wk0, wk1, wk2, wk3, Nat.reduceAdd, Nat.reduceEqDiff, Nat.reduceLeDiff, Nat.reduceLT, Nat.reduceMul, Int.reduceLE, Int.reduceLT, Int.reduceEq, Int.reduceNe, wk4, laidS, keepS, hb]) | (refine r_gcasesD (fun hp hb => ?_) (fun hp hb => ?_) <;> simp only [↓wt, wu, wk0, wk1, wk2, wk3, Nat.reduceAdd, Nat.reduceEqDiff, Nat.reduceLeDiff, Nat.reduceLT, Nat.reduceMul, Int.reduceLE, Int.reduceLT, Int.reduceEq, Int.reduceNe, wk4, laidS, keepS, hb]) | (refine r_gcasesN (fun hp hb => ?_) (fun hp hb => ?_) <;> simp only [↓wt, wu, wk0, wk1, wk2, wk3, Nat.reduceAdd, Nat.reduceEqDiff, Nat.reduceLeDiff, Nat.reduceLT, Nat.reduceMul, Int.reduceLE, Int.reduceLT, Int.reduceEq, Int.reduceNe, wk4, laidS, keepS, hb]) | (refine r_gcasesM (fun hp hb => ?_) (fun hp hb => ?_) <;> simp only [↓wt, wu, wk0, wk1, wk2, wk3, Nat.reduceAdd, Nat.reduceEqDiff, Nat.reduceLeDiff, Nat.reduceLT, Nat.reduceMul, Int.reduceLE, Int.reduceLT, Int.reduceEq, Int.reduceNe, wk4, laidS, keepS, hb]) | (refine r_gcasesB (fun hp hb => ?_) (fun hp hb => ?_) <;> simp only [↓wt, wu, wk0, wk1, wk2, wk3, Nat.reduceAdd, Nat.reduceEqDiff, Nat.reduceLeDiff, Nat.reduceLT, Nat.reduceMul, Int.reduceLE, Int.reduceLT, Int.reduceEq, Int.reduceNe, wk4, laidS, keepS, hb]) | ((with_reducible refine And.intro ?_ ?_); omega) | fail)
    · have hkl : k < a.told.length := by omega
      have e3 := wi_succ (k := k) (by omega)
      simp only [↓wt, wu, wk0, wk1, wk2, wk3, Nat.reduceAdd, Nat.reduceEqDiff, Nat.reduceLeDiff, Nat.reduceLT, Nat.reduceMul, Int.reduceLE, Int.reduceLT, Int.reduceEq, Int.reduceNe, wk4, laidS, keepS, elem_O]
      refine ⟨by omega, ?_⟩
      have next : ∀ b : Bool, (k : Int) ≠ who → a.told.getD k false = b → b = true → ∀ j, j < k + 1 → (j : Int) ≠ who → a.told.getD j false = true := fun b h1 h2 h3 j hj hw => by
        rcases Nat.lt_or_ge j k with h | h
        · exact hG j h hw
        · have : j = k := by omega
          subst this; rw [h2, h3]
      by_cases hw : (k : Int) = who
      · have f1 : decide ((k : Int) = who) = true := decide_eq_true hw
        simp only [↓wt, wu, wk0, wk1, wk2, wk3, Nat.reduceAdd, Nat.reduceEqDiff, Nat.reduceLeDiff, Nat.reduceLT, Nat.reduceMul, Int.reduceLE, Int.reduceLT, Int.reduceEq, Int.reduceNe, wk4, laidS, keepS, f1, e3]
        refine ⟨k + 1, ⟨by omega, fun j hj hjw => hG j (by omega) hjw⟩, by omega, ?_⟩
        simp only [↓wt, wu, wk0, wk1, wk2, wk3, wkf, Nat.reduceAdd, Nat.reduceEqDiff, Nat.reduceLeDiff, Nat.reduceLT, Nat.reduceMul, Int.reduceLE, Int.reduceLT, Int.reduceEq, Int.reduceNe, wk4, laidS, keepS, e3, underL_O, underL_I, under_e]
        try trivial
      · have f1 : decide ((k : Int) = who) = false := decide_eq_false hw
        cases ht : a.told.getD k false
        · simp only [↓wt, wu, wk0, wk1, wk2, wk3, Nat.reduceAdd, Nat.reduceEqDiff, Nat.reduceLeDiff, Nat.reduceLT, Nat.reduceMul, Int.reduceLE, Int.reduceLT, Int.reduceEq, Int.reduceNe, wk4, laidS, keepS, f1, ht, e3, Try.results52]
          exact exp_bF (p := AllA who a) fun h => by have := h.1 k hkl hw; rw [ht] at this; cases this
        · simp only [↓wt, wu, wk0, wk1, wk2, wk3, Nat.reduceAdd, Nat.reduceEqDiff, Nat.reduceLeDiff, Nat.reduceLT, Nat.reduceMul, Int.reduceLE, Int.reduceLT, Int.reduceEq, Int.reduceNe, wk4, laidS, keepS, f1, ht, e3]
          refine ⟨k + 1, ⟨by omega, next _ hw ht rfl⟩, by omega, ?_⟩
          simp only [↓wt, wu, wk0, wk1, wk2, wk3, wkf, Nat.reduceAdd, Nat.reduceEqDiff, Nat.reduceLeDiff, Nat.reduceLT, Nat.reduceMul, Int.reduceLE, Int.reduceLT, Int.reduceEq, Int.reduceNe, wk4, laidS, keepS, e3, underL_O, underL_I, under_e]
          try trivial
    · have hk2 : k = a.told.length := by omega
      subst hk2
      refine icall_drop [] (none_call a hl) ⟨arg_aud, trivial⟩ (.c _) ?_
      simp only [↓wt, wu, wk0, wk1, wk2, wk3, Nat.reduceAdd, Nat.reduceEqDiff, Nat.reduceLeDiff, Nat.reduceLT, Nat.reduceMul, Int.reduceLE, Int.reduceLT, Int.reduceEq, Int.reduceNe, wk4, laidS, keepS, Try.results52]
      exact exp_bN ⟨fun h => ⟨hG, h⟩, fun h => h.2⟩
end Go.Ab
