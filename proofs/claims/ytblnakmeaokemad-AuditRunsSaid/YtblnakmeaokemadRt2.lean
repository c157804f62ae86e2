/- Rights: books; a share; how many numbers; the same; there. -/
import Derived.Test.YtblnakmeaokemadRt1
import Derived.Test.YtblnakmeaokemadAbG8
set_option linter.unusedSimpArgs false
set_option linter.unusedVariables false
set_option linter.constructorNameAsVariable false
set_option maxRecDepth 100000
namespace Go.Ab
open Go Go.Proofs Go.RowKit

/-- A row of books. -/
structure RowD where
  i : Int
  u : Int
  o : List Int
  deriving Inhabited, DecidableEq
def RowV (r : RowD) : AV := RowA r.i r.u r.o
theorem RowV_eq {r : RowD} : RowV r = .g [.c (.int .i64 r.i), .c (.int .i64 r.u), .l 1 (r.o.map encI)] := rfl
theorem RowV_mk {i u : Int} {o : List Int} : .g [.c (.int .i64 i), .c (.int .i64 u), .l 1 (o.map encI)] = RowV ⟨i, u, o⟩ := rfl
def rowAt (l : List RowD) (k : Nat) : RowD := l.getD k ⟨0, 0, []⟩
theorem elem_R {l : List RowD} {i : Nat} {K : AV → Prop} : Elem (l.map RowV) i K = (i < l.length ∧ K (RowV (rowAt l i))) := elem_map _
theorem under_RowV {k : Nat} (r : RowD) : ∀ x ∈ (RowV r).cells, Under k x := fun x hx => by
  simp only [RowV, RowA, AV.cells, List.mem_cons, List.not_mem_nil, or_false] at hx
  rcases hx with rfl | rfl | rfl
  · exact .c _
  · exact .c _
  · rw [under_l, underL_I]; trivial
theorem underL_R {k : Nat} {l : List RowD} : UnderL k (l.map RowV) = True := eq_true (underL_map k under_RowV l)
theorem pureR (l : List RowD) : PureL (l.map RowV) := by rw [pureL_eq, underL_R]; trivial
/-- Books that nobody writes any more. -/
def BooksV (l : List RowD) : AV := .l 3 (l.map RowV)
theorem rowAt_ge {l : List RowD} {k : Nat} (h : l.length ≤ k) : rowAt l k = ⟨0, 0, []⟩ := by
  rw [rowAt, List.getD_eq_getElem?_getD, List.getElem?_eq_none h]; rfl
theorem books_ext {a b : List RowD} (hl : a.length = b.length) (h : ∀ k, k < a.length → rowAt a k = rowAt b k) : a = b := by
  refine List.ext_getElem hl fun k h1 h2 => ?_
  have := h k h1
  rwa [rowAt, rowAt, List.getD_eq_getElem?_getD, List.getD_eq_getElem?_getD, List.getElem?_eq_getElem h1, List.getElem?_eq_getElem h2] at this
theorem arg_conf {M : Mem} {ids : List Nat} {c : Conf} : VOkA M (ConfA c) ∧ (∀ k ∈ idsA (ConfA c), k ∈ ids) ∧ Weak (viewA M (ConfA c)) (ConfA c) ∧ Under 0 (ConfA c) :=
  arg_pure ⟨argC_c, argC_c, argC_c, argC_c, argC_c, argC_c, trivial⟩
theorem arg_conf' {M : Mem} {ids : List Nat} {c : Conf} : VOkA M (.g [.c (.int .i64 c.n), .c (.int .i64 c.q), .c (.int .i64 c.r), .c (.int .i64 c.p), .c (.int .i64 c.k), .c (.int .i64 c.c)]) ∧ (∀ k ∈ idsA (.g [.c (.int .i64 c.n), .c (.int .i64 c.q), .c (.int .i64 c.r), .c (.int .i64 c.p), .c (.int .i64 c.k), .c (.int .i64 c.c)]), k ∈ ids) ∧ Weak (viewA M (.g [.c (.int .i64 c.n), .c (.int .i64 c.q), .c (.int .i64 c.r), .c (.int .i64 c.p), .c (.int .i64 c.k), .c (.int .i64 c.c)])) (ConfA c) ∧ Under 0 (ConfA c) := arg_conf
theorem arg_books {M : Mem} {ids : List Nat} {l : List RowD} : VOkA M (.l 3 (l.map RowV)) ∧ (∀ k ∈ idsA (.l 3 (l.map RowV)), k ∈ ids) ∧ Weak (viewA M (.l 3 (l.map RowV))) (.l 3 (l.map RowV)) ∧ Under 0 (.l 3 (l.map RowV)) := arg_l (pureR l)
theorem arg_rowV {M : Mem} {ids : List Nat} {r : RowD} : VOkA M (RowV r) ∧ (∀ k ∈ idsA (RowV r), k ∈ ids) ∧ Weak (viewA M (RowV r)) (RowV r) ∧ Under 0 (RowV r) := arg_pure ⟨argC_c, argC_c, argC_I, trivial⟩

def There (c : Conf) (w : Int) : Prop := 0 ≤ w ∧ w < c.n
instance (c : Conf) (w : Int) : Decidable (There c w) := by unfold There; infer_instance
theorem there_call (c : Conf) (w : Int) : PCall Try.prog 79 [ConfA c, .c (.int .i64 w)] (.c (.bool (decide (There c w)))) := by
  refine pcall_body tabOk Try.func79 rfl rfl (by rw [Try.ntmps79]; simp) ?_
  simp only [Try.ntmps79, ConfA]
  simp only [↓wt, wu, wk0, wk1, wk2, wk3, Nat.reduceAdd, Nat.reduceEqDiff, Nat.reduceLeDiff, Nat.reduceLT, Nat.reduceMul, Int.reduceLE, Int.reduceLT, Int.reduceEq, Int.reduceNe, wk4, laidS, keepS]
  repeat' (first | (refine r_casesD (fun hp hb => ?_) (fun hp hb => ?_) <;> simp only [↓wt, wu, wk0, wk1, wk2, wk3, Nat.reduceAdd, Nat.reduceEqDiff, Nat.reduceLeDiff, Nat.reduceLT, Nat.reduceMul, Int.reduceLE, Int.reduceLT, Int.reduceEq, Int.reduceNe, wk4, laidS, keepS, Try.results79, hb]) | (refine r_casesN (fun hp hb => ?_) (fun hp hb => ?_) <;> simp only [↓wt, wu, wk0, wk1, wk2, wk3, Nat.reduceAdd, Nat.reduceEqDiff, Nat.reduceLeDiff, Nat.reduceLT, Nat.reduceMul, Int.reduceLE, Int.reduceLT, Int.reduceEq, Int.reduceNe, wk4, laidS, keepS, Try.results79, hb]) | (refine r_casesM (fun hp hb => ?_) (fun hp hb => ?_) <;> simp only [↓wt, wu, wk0, wk1, wk2, wk3, Nat.reduceAdd, Nat.reduceEqDiff, Nat.reduceLeDiff, Nat.reduceLT, Nat.reduceMul, Int.reduceLE, Int.reduceLT, Int.reduceEq, Int.reduceNe, wk4, laidS, keepS, Try.results79, hb]) | (refine r_casesB (fun hp hb => ?_) (fun hp hb => ?_) <;> simp only [↓wt, wu, wk0, wk1, wk2, wk3, Nat.reduceAdd, Nat.reduceEqDiff, Nat.reduceLeDiff, Nat.reduceLT, Nat.reduceMul, Int.reduceLE, Int.reduceLT, Int.reduceEq, Int.reduceNe, wk4, laidS, keepS, Try.results79, hb]) | (refine r_gcasesD (fun hp hb => ?_) (fun hp hb => ?_) <;> simp only [↓wt, wu, wk0, wk1, wk2, wk3, Nat.reduceAdd, Nat.reduceEqDiff, Nat.reduceLeDiff, Nat.reduceLT, Nat.reduceMul, Int.reduceLE, Int.reduceLT, Int.reduceEq, Int.reduceNe, wk4, laidS, keepS, Try.results79, hb]) | (refine r_gcasesN (fun hp hb => ?_) (fun hp hb => ?_) <;> simp only [↓wt, wu, wk0, wk1, wk2, wk3, Nat.reduceAdd, Nat.reduceEqDiff, Nat.reduceLeDiff, Nat.reduceLT, Nat.reduceMul, Int.reduceLE, Int.reduceLT, Int.reduceEq, Int.reduceNe, wk4, laidS, keepS, Try.results79, hb]) | (refine r_gcasesM (fun hp hb => ?_) (fun hp hb => ?_) <;> simp only [↓wt, wu, wk0, wk1, wk2, wk3, Nat.reduceAdd, Nat.reduceEqDiff, Nat.reduceLeDiff, Nat.reduceLT, Nat.reduceMul, Int.reduceLE, Int.reduceLT, Int.reduceEq, Int.reduceNe, wk4, laidS, keepS, Try.results79, hb]) | (refine r_gcasesB (fun hp hb => ?_) (fun hp hb => ?_) <;> simp only [↓wt, wu, wk0, wk1, wk2, wk3, Nat.reduceAdd, Nat.reduceEqDiff, Nat.reduceLeDiff, Nat.reduceLT, Nat.reduceMul, Int.reduceLE, Int.reduceLT, Int.reduceEq, Int.reduceNe, wk4, laidS, keepS, Try.results79, hb]) | ((with_reducible refine And.intro ?_ ?_); omega) | fail)
  · exact exp_bE (by unfold There; omega)
  · exact exp_bF (by unfold There; omega)
/-- A replica's share. -/
def shareC (c : Conf) (w : Int) : Int := if MayC c ∧ There c w then (if w < c.k % c.n then c.k / c.n + 1 else c.k / c.n) else 0
theorem share_q {c : Conf} (h : MayC c) : 0 ≤ c.k / c.n ∧ c.k / c.n ≤ 1099511627776 ∧ 0 ≤ c.k % c.n ∧ c.k % c.n < c.n ∧ c.k / c.n * c.n + c.k % c.n = c.k ∧ c.k.tdiv c.n = c.k / c.n ∧ c.k.tmod c.n = c.k % c.n := by
  obtain ⟨h1, _, _, _, h2, _⟩ := h
  have a1 := Int.ediv_nonneg h2.1 (show 0 ≤ c.n by omega)
  have a2 := Int.emod_nonneg c.k (show c.n ≠ 0 by omega)
  have a3 := Int.emod_lt_of_pos c.k (show 0 < c.n by omega)
  have a4 := Int.mul_ediv_add_emod c.k c.n
  rw [Int.mul_comm] at a4
  have a5 : c.k / c.n * 1 ≤ c.k / c.n * c.n := Int.mul_le_mul_of_nonneg_left (by omega) a1
  exact ⟨a1, by omega, a2, a3, a4, Int.tdiv_eq_ediv_of_nonneg h2.1, Int.tmod_eq_emod_of_nonneg h2.1⟩
theorem share_bnd (c : Conf) (w : Int) : 0 ≤ shareC c w ∧ shareC c w ≤ 1099511627777 := by
  unfold shareC
  split
  · rename_i h
    have := share_q h.1
    split <;> omega
  · omega
theorem share_call (c : Conf) (w : Int) : PCall Try.prog 73 [ConfA c, .c (.int .i64 w)] (.c (.int .i64 (shareC c w))) := by
  have m1 := rtmay_call c
  have m2 := there_call c w
  refine pcall_body tabOk Try.func73 rfl rfl (by rw [Try.ntmps73]; simp) ?_
  simp only [Try.ntmps73, ConfA]
  simp only [↓wt, wu, wk0, wk1, wk2, wk3, Nat.reduceAdd, Nat.reduceEqDiff, Nat.reduceLeDiff, Nat.reduceLT, Nat.reduceMul, Int.reduceLE, Int.reduceLT, Int.reduceEq, Int.reduceNe, wk4, laidS, keepS]
  refine icall_drop [] m1 ⟨arg_conf', trivial⟩ (.c _) ?_
  simp only [↓wt, wu, wk0, wk1, wk2, wk3, Nat.reduceAdd, Nat.reduceEqDiff, Nat.reduceLeDiff, Nat.reduceLT, Nat.reduceMul, Int.reduceLE, Int.reduceLT, Int.reduceEq, Int.reduceNe, wk4, laidS, keepS]
  repeat' (first | (refine r_casesD (fun hp hb => ?_) (fun hp hb => ?_) <;> simp only [↓wt, wu, wk0, wk1, wk2, wk3, Nat.reduceAdd, Nat.reduceEqDiff, Nat.reduceLeDiff, Nat.reduceLT, Nat.reduceMul, Int.reduceLE, Int.reduceLT, Int.reduceEq, Int.reduceNe, wk4, laidS, keepS, Try.results73, hb]) | (refine r_casesN (fun hp hb => ?_) (fun hp hb => ?_) <;> simp only [↓wt, wu, wk0, wk1, wk2, wk3, Nat.reduceAdd, Nat.reduceEqDiff, Nat.reduceLeDiff, Nat.reduceLT, Nat.reduceMul, Int.reduceLE, Int.reduceLT, Int.reduceEq, Int.reduceNe, wk4, laidS, keepS, Try.results73, hb]) | (refine r_casesM (fun hp hb => ?_) (fun hp hb => ?_) <;> simp only [↓wt, wu, wk0, wk1, wk2, wk3, Nat.reduceAdd, Nat.reduceEqDiff, Nat.reduceLeDiff, Nat.reduceLT, Nat.reduceMul, Int.reduceLE, Int.reduceLT, Int.reduceEq, Int.reduceNe, wk4, laidS, keepS, Try.results73, hb]) | (refine r_casesB (fun hp hb => ?_) (fun hp hb => ?_) <;> simp only [↓wt, wu, wk0, wk1, wk2, wk3, Nat.reduceAdd, Nat.reduceEqDiff, Nat.reduceLeDiff, Nat.reduceLT, Nat.reduceMul, Int.reduceLE, Int.reduceLT, Int.reduceEq, Int.reduceNe, wk4, laidS, keepS, Try.results73, hb]) | (refine r_gcasesD (fun hp hb => ?_) (fun hp hb => ?_) <;> simp only [↓wt, wu, wk0, wk1, wk2, wk3, Nat.reduceAdd, Nat.reduceEqDiff, Nat.reduceLeDiff, Nat.reduceLT, Nat.reduceMul, Int.reduceLE, Int.reduceLT, Int.reduceEq, Int.reduceNe, wk4, laidS, keepS, Try.results73, hb]) | (refine r_gcasesN (fun hp hb => ?_) (fun hp hb => ?_) <;> simp only [↓wt, wu, wk0, wk1, wk2, wk3, Nat.reduceAdd, Nat.reduceEqDiff, Nat.reduceLeDiff, Nat.reduceLT, Nat.reduceMul, Int.reduceLE, Int.reduceLT, Int.reduceEq, Int.reduceNe, wk4, laidS, keepS, Try.results73, hb]) | (refine r_gcasesM (fun hp hb => ?_) (fun hp hb => ?_) <;> simp only [↓wt, wu, wk0, wk1, wk2, wk3, Nat.reduceAdd, Nat.reduceEqDiff, Nat.reduceLeDiff, Nat.reduceLT, Nat.reduceMul, Int.reduceLE, Int.reduceLT, Int.reduceEq, Int.reduceNe, wk4, laidS, keepS, Try.results73, hb]) | (refine r_gcasesB (fun hp hb => ?_) (fun hp hb => ?_) <;> simp only [↓wt, wu, wk0, wk1, wk2, wk3, Nat.reduceAdd, Nat.reduceEqDiff, Nat.reduceLeDiff, Nat.reduceLT, Nat.reduceMul, Int.reduceLE, Int.reduceLT, Int.reduceEq, Int.reduceNe, wk4, laidS, keepS, Try.results73, hb]) | ((with_reducible refine And.intro ?_ ?_); omega) | fail)
  · refine icall_drop [] m2 ⟨arg_conf', arg_c, trivial⟩ (.c _) ?_
    simp only [↓wt, wu, wk0, wk1, wk2, wk3, Nat.reduceAdd, Nat.reduceEqDiff, Nat.reduceLeDiff, Nat.reduceLT, Nat.reduceMul, Int.reduceLE, Int.reduceLT, Int.reduceEq, Int.reduceNe, wk4, laidS, keepS]
    repeat' (first | (refine r_casesD (fun hp hb => ?_) (fun hp hb => ?_) <;> simp only [↓wt, wu, wk0, wk1, wk2, wk3, Nat.reduceAdd, Nat.reduceEqDiff, Nat.reduceLeDiff, Nat.reduceLT, Nat.reduceMul, Int.reduceLE, Int.reduceLT, Int.reduceEq, Int.reduceNe, wk4, laidS, keepS, Try.results73, hb]) | (refine r_casesN (fun hp hb => ?_) (fun hp hb => ?_) <;> simp only [↓wt, wu, wk0, wk1, wk2, wk3, Nat.reduceAdd, Nat.reduceEqDiff, Nat.reduceLeDiff, Nat.reduceLT, Nat.reduceMul, Int.reduceLE, Int.reduceLT, Int.reduceEq, Int.reduceNe, wk4, laidS, keepS, Try.results73, hb]) | (refine r_casesM (fun hp hb => ?_) (fun hp hb => ?_) <;> simp only [↓wt, wu, wk0, wk1, wk2, wk3, Nat.reduceAdd, Nat.reduceEqDiff, Nat.reduceLeDiff, Nat.reduceLT, Nat.reduceMul, Int.reduceLE, Int.reduceLT, Int.reduceEq, Int.reduceNe, wk4, laidS, keepS, Try.results73, hb]) | (refine r_casesB (fun hp hb => ?_) (fun hp hb => ?_) <;> simp only [↓wt, wu, wk0, wk1, wk2, wk3, Nat.reduceAdd, Nat.reduceEqDiff, Nat.reduceLeDiff, Nat.reduceLT, Nat.reduceMul, Int.reduceLE, Int.reduceLT, Int.reduceEq, Int.reduceNe, wk4, laidS, keepS, Try.results73, hb]) | (refine r_gcasesD (fun hp hb => ?_) (fun hp hb => ?_) <;> simp only [↓wt, wu, wk0, wk1, wk2, wk3, Nat.reduceAdd, Nat.reduceEqDiff, Nat.reduceLeDiff, Nat.reduceLT, Nat.reduceMul, Int.reduceLE, Int.reduceLT, Int.reduceEq, Int.reduceNe, wk4, laidS, keepS, Try.results73, hb]) | (refine r_gcasesN (fun hp hb => ?_) (fun hp hb => ?_) <;> simp only [↓wt, wu, wk0, wk1, wk2, wk3, Nat.reduceAdd, Nat.reduceEqDiff, Nat.reduceLeDiff, Nat.reduceLT, Nat.reduceMul, Int.reduceLE, Int.reduceLT, Int.reduceEq, Int.reduceNe, wk4, laidS, keepS, Try.results73, hb]) | (refine r_gcasesM (fun hp hb => ?_) (fun hp hb => ?_) <;> simp only [↓wt, wu, wk0, wk1, wk2, wk3, Nat.reduceAdd, Nat.reduceEqDiff, Nat.reduceLeDiff, Nat.reduceLT, Nat.reduceMul, Int.reduceLE, Int.reduceLT, Int.reduceEq, Int.reduceNe, wk4, laidS, keepS, Try.results73, hb]) | (refine r_gcasesB (fun hp hb => ?_) (fun hp hb => ?_) <;> simp only [↓wt, wu, wk0, wk1, wk2, wk3, Nat.reduceAdd, Nat.reduceEqDiff, Nat.reduceLeDiff, Nat.reduceLT, Nat.reduceMul, Int.reduceLE, Int.reduceLT, Int.reduceEq, Int.reduceNe, wk4, laidS, keepS, Try.results73, hb]) | ((with_reducible refine And.intro ?_ ?_); omega) | fail)
    · rename_i h1 _
      have hp0 := hp
      have hq := share_q h1
      have hn : 1 ≤ c.n ∧ c.n ≤ 16 := h1.1
      have e1 : IntKind.i64.wrap (c.k.tdiv c.n) = c.k / c.n := by rw [hq.2.2.2.2.2.1]; exact wrap_i64 (by omega) (by omega)
      have e2 : IntKind.i64.wrap (c.k / c.n + 1) = c.k / c.n + 1 := wrap_i64 (by omega) (by omega)
      refine ⟨by omega, ?_⟩
      simp only [hq.2.2.2.2.2.2]
      repeat' (first | (refine r_casesD (fun hp hb => ?_) (fun hp hb => ?_) <;> simp only [↓wt, wu, wk0, wk1, wk2, wk3, Nat.reduceAdd, Nat.reduceEqDiff, Nat.reduceLeDiff, Nat.reduceLT, Nat.reduceMul, Int.reduceLE, Int.reduceLT, Int.reduceEq, Int.reduceNe, wk4, laidS, keepS, e1, e2, Try.results73, hb]) | (refine r_casesN (fun hp hb => ?_) (fun hp hb => ?_) <;> simp only [↓wt, wu, wk0, wk1, wk2, wk3, Nat.reduceAdd, Nat.reduceEqDiff, Nat.reduceLeDiff, Nat.reduceLT, Nat.reduceMul, Int.reduceLE, Int.reduceLT, Int.reduceEq, Int.reduceNe, wk4, laidS, keepS, e1, e2, Try.results73, hb]) | (refine r_casesM (fun hp hb => ?_) (fun hp hb => ?_) <;> simp only [↓wt, wu, wk0, wk1, wk2, wk3, Nat.reduceAdd, Nat.reduceEqDiff, Nat.reduceLeDiff, Nat.reduceLT, Nat.reduceMul, Int.reduceLE, Int.reduceLT, Int.reduceEq, Int.reduceNe, wk4, laidS, keepS, e1, e2, Try.results73, hb]) | (refine r_casesB (fun hp hb => ?_) (fun hp hb => ?_) <;> simp only [↓wt, wu, wk0, wk1, wk2, wk3, Nat.reduceAdd, Nat.reduceEqDiff, Nat.reduceLeDiff, Nat.reduceLT, Nat.reduceMul, Int.reduceLE, Int.reduceLT, Int.reduceEq, Int.reduceNe, wk4, laidS, keepS, e1, e2, Try.results73, hb]) | (refine r_gcasesD (fun hp hb => ?_) (fun hp hb => ?_) <;> simp only [↓wt, wu, wk0, wk1, wk2, wk3, Nat.reduceAdd, Nat.reduceEqDiff, Nat.reduceLeDiff, Nat.reduceLT, Nat.reduceMul, Int.reduceLE, Int.reduceLT, Int.reduceEq, Int.reduceNe, wk4, laidS, keepS, e1, e2, Try.results73, hb]) | (refine r_gcasesN (fun hp hb => ?_) (fun hp hb => ?_) <;> simp only [↓wt, wu, wk0, wk1, wk2, wk3, Nat.reduceAdd, Nat.reduceEqDiff, Nat.reduceLeDiff, Nat.reduceLT, Nat.reduceMul, Int.reduceLE, Int.reduceLT, Int.reduceEq, Int.reduceNe, wk4, laidS, keepS, e1, e2, Try.results73, hb]) | (refine r_gcasesM (fun hp hb => ?_) (fun hp hb => ?_) <;> simp only [↓wt, wu, wk0, wk1, wk2, wk3, Nat.reduceAdd, Nat.reduceEqDiff, Nat.reduceLeDiff, Nat.reduceLT, Nat.reduceMul, Int.reduceLE, Int.reduceLT, Int.reduceEq, Int.reduceNe, wk4, laidS, keepS, e1, e2, Try.results73, hb]) | (refine r_gcasesB (fun hp hb => ?_) (fun hp hb => ?_) <;> simp only [↓wt, wu, wk0, wk1, wk2, wk3, Nat.reduceAdd, Nat.reduceEqDiff, Nat.reduceLeDiff, Nat.reduceLT, Nat.reduceMul, Int.reduceLE, Int.reduceLT, Int.reduceEq, Int.reduceNe, wk4, laidS, keepS, e1, e2, Try.results73, hb]) | ((with_reducible refine And.intro ?_ ?_); omega) | fail)
      all_goals repeat (refine And.intro (by omega) ?_)
      · exact exp_i (by rw [shareC, if_pos ⟨h1, hp0⟩, if_pos (by assumption)])
      · exact exp_i (by rw [shareC, if_pos ⟨h1, hp0⟩, if_neg (by assumption)])
    · exact exp_i (by rw [shareC, if_neg fun h => hp h.2])
  · exact exp_i (by rw [shareC, if_neg fun h => hp h.1])
theorem rshare_call (c : Conf) (w : Int) : PCall Try.prog 61 [ConfA c, .c (.int .i64 w)] (.c (.int .i64 (shareC c w))) := by
  have m1 := rrtmay_call c
  refine pcall_body tabOk Try.func61 rfl rfl (by rw [Try.ntmps61]; simp) ?_
  simp only [Try.ntmps61, ConfA]
  simp only [↓wt, wu, wk0, wk1, wk2, wk3, Nat.reduceAdd, Nat.reduceEqDiff, Nat.reduceLeDiff, Nat.reduceLT, Nat.reduceMul, Int.reduceLE, Int.reduceLT, Int.reduceEq, Int.reduceNe, wk4, laidS, keepS]
  refine icall_drop [] m1 ⟨arg_conf', trivial⟩ (.c _) ?_
  simp only [↓wt, wu, wk0, wk1, wk2, wk3, Nat.reduceAdd, Nat.reduceEqDiff, Nat.reduceLeDiff, Nat.reduceLT, Nat.reduceMul, Int.reduceLE, Int.reduceLT, Int.reduceEq, Int.reduceNe, wk4, laidS, keepS]
  refine r_gcasesN (fun h1 hb => ?_) (fun h1 hb => ?_)
  · have hq := share_q h1
    have hn : 1 ≤ c.n ∧ c.n ≤ 16 := h1.1
    have hk : 0 ≤ c.k ∧ c.k ≤ 1099511627776 := h1.2.2.2.2.1
    have e1 : IntKind.i64.wrap (c.k.tdiv c.n) = c.k / c.n := by rw [hq.2.2.2.2.2.1]; exact wrap_i64 (by omega) (by omega)
    have e2 : IntKind.i64.wrap (c.k / c.n + 1) = c.k / c.n + 1 := wrap_i64 (by omega) (by omega)
    have e3 : IntKind.i64.wrap (c.k / c.n * c.n) = c.k / c.n * c.n := wrap_i64 (by omega) (by omega)
    have e4 : IntKind.i64.wrap (c.k - c.k / c.n * c.n) = c.k % c.n := by rw [wrap_i64 (by omega) (by omega)]; omega
    simp only [↓wt, wu, wk0, wk1, wk2, wk3, Nat.reduceAdd, Nat.reduceEqDiff, Nat.reduceLeDiff, Nat.reduceLT, Nat.reduceMul, Int.reduceLE, Int.reduceLT, Int.reduceEq, Int.reduceNe, wk4, laidS, keepS, hb]
    repeat' (first | (refine r_casesD (fun hp hb => ?_) (fun hp hb => ?_) <;> simp only [↓wt, wu, wk0, wk1, wk2, wk3, Nat.reduceAdd, Nat.reduceEqDiff, Nat.reduceLeDiff, Nat.reduceLT, Nat.reduceMul, Int.reduceLE, Int.reduceLT, Int.reduceEq, Int.reduceNe, wk4, laidS, keepS, e1, e2, e3, e4, Try.results61, hb]) | (refine r_casesN (fun hp hb => ?_) (fun hp hb => ?_) <;> simp only [↓wt, wu, wk0, wk1, wk2, wk3, Nat.reduceAdd, Nat.reduceEqDiff, Nat.reduceLeDiff, Nat.reduceLT, Nat.reduceMul, Int.reduceLE, Int.reduceLT, Int.reduceEq, Int.reduceNe, wk4, laidS, keepS, e1, e2, e3, e4, Try.results61, hb]) | (refine r_casesM (fun hp hb => ?_) (fun hp hb => ?_) <;> simp only [↓wt, wu, wk0, wk1, wk2, wk3, Nat.reduceAdd, Nat.reduceEqDiff, Nat.reduceLeDiff, Nat.reduceLT, Nat.reduceMul, Int.reduceLE, Int.reduceLT, Int.reduceEq, Int.reduceNe, wk4, laidS, keepS, e1, e2, e3, e4, Try.results61, hb]) | (refine r_casesB (fun hp hb => ?_) (fun hp hb => ?_) <;> simp only [↓wt, wu, wk0, wk1, wk2, wk3, Nat.reduceAdd, Nat.reduceEqDiff, Nat.reduceLeDiff, Nat.reduceLT, Nat.reduceMul, Int.reduceLE, Int.reduceLT, Int.reduceEq, Int.reduceNe, wk4, laidS, keepS, e1, e2, e3, e4, Try.results61, hb]) | (refine r_gcasesD (fun hp hb => ?_) (fun hp hb => ?_) <;> simp only [↓wt, wu, wk0, wk1, wk2, wk3, Nat.reduceAdd, Nat.reduceEqDiff, Nat.reduceLeDiff, Nat.reduceLT, Nat.reduceMul, Int.reduceLE, Int.reduceLT, Int.reduceEq, Int.reduceNe, wk4, laidS, keepS, e1, e2, e3, e4, Try.results61, hb]) | (refine r_gcasesN (fun hp hb => ?_) (fun hp hb => ?_) <;> simp only [↓wt, wu, wk0, wk1, wk2, wk3, Nat.reduceAdd, Nat.reduceEqDiff, Nat.reduceLeDiff, Nat.reduceLT, Nat.reduceMul, Int.reduceLE, Int.reduceLT, Int.reduceEq, Int.reduceNe, wk4, laidS, keepS, e1, e2, e3, e4, Try.results61, hb]) | (refine r_gcasesM (fun hp hb => ?_) (fun hp hb => ?_) <;> simp only [↓wt, wu, wk0, wk1, wk2, wk3, Nat.reduceAdd, Nat.reduceEqDiff, Nat.reduceLeDiff, Nat.reduceLT, Nat.reduceMul, Int.reduceLE, Int.reduceLT, Int.reduceEq, Int.reduceNe, wk4, laidS, keepS, e1, e2, e3, e4, Try.results61, hb]) | (refine r_gcasesB (fun hp hb => ?_) (fun hp hb => ?_) <;> simp only [↓wt, wu, wk0, wk1, wk2, wk3, Nat.reduceAdd, Nat.reduceEqDiff, Nat.reduceLeDiff, Nat.reduceLT, Nat.reduceMul, Int.reduceLE, Int.reduceLT, Int.reduceEq, Int.reduceNe, wk4, laidS, keepS, e1, e2, e3, e4, Try.results61, hb]) | ((with_reducible refine And.intro ?_ ?_); omega) | fail)
    · exact exp_i (by rw [shareC, if_neg fun h => by have := h.2.1; omega])
    · exact exp_i (by rw [shareC, if_neg fun h => by have := h.2.2; omega])
    · exact exp_i (by rw [shareC, if_pos ⟨h1, by omega, by omega⟩, if_pos hp])
    · exact exp_i (by rw [shareC, if_pos ⟨h1, by omega, by omega⟩, if_neg hp])
  · simp only [↓wt, wu, wk0, wk1, wk2, wk3, Nat.reduceAdd, Nat.reduceEqDiff, Nat.reduceLeDiff, Nat.reduceLT, Nat.reduceMul, Int.reduceLE, Int.reduceLT, Int.reduceEq, Int.reduceNe, wk4, laidS, keepS, hb]
    repeat' (first | (refine r_casesD (fun hp hb => ?_) (fun hp hb => ?_) <;> simp only [↓wt, wu, wk0, wk1, wk2, wk3, Nat.reduceAdd, Nat.reduceEqDiff, Nat.reduceLeDiff, Nat.reduceLT, Nat.reduceMul, Int.reduceLE, Int.reduceLT, Int.reduceEq, Int.reduceNe, wk4, laidS, keepS, Try.results61, hb]) | (refine r_casesN (fun hp hb => ?_) (fun hp hb => ?_) <;> simp only [↓wt, wu, wk0, wk1, wk2, wk3, Nat.reduceAdd, Nat.reduceEqDiff, Nat.reduceLeDiff, Nat.reduceLT, Nat.reduceMul, Int.reduceLE, Int.reduceLT, Int.reduceEq, Int.reduceNe, wk4, laidS, keepS, Try.results61, hb]) | (refine r_casesM (fun hp hb => ?_) (fun hp hb => ?_) <;> simp only [↓wt, wu, wk0, wk1, wk2, wk3, Nat.reduceAdd, Nat.reduceEqDiff, Nat.reduceLeDiff, Nat.reduceLT, Nat.reduceMul, Int.reduceLE, Int.reduceLT, Int.reduceEq, Int.reduceNe, wk4, laidS, keepS, Try.results61, hb]) | (refine r_casesB (fun hp hb => ?_) (fun hp hb => ?_) <;> simp only [↓wt, wu, wk0, wk1, wk2, wk3, Nat.reduceAdd, Nat.reduceEqDiff, Nat.reduceLeDiff, Nat.reduceLT, Nat.reduceMul, Int.reduceLE, Int.reduceLT, Int.reduceEq, Int.reduceNe, wk4, laidS, keepS, Try.results61, hb]) | (refine r_gcasesD (fun hp hb => ?_) (fun hp hb => ?_) <;> simp only [↓wt, wu, wk0, wk1, wk2, wk3, Nat.reduceAdd, Nat.reduceEqDiff, Nat.reduceLeDiff, Nat.reduceLT, Nat.reduceMul, Int.reduceLE, Int.reduceLT, Int.reduceEq, Int.reduceNe, wk4, laidS, keepS, Try.results61, hb]) | (refine r_gcasesN (fun hp hb => ?_) (fun hp hb => ?_) <;> simp only [↓wt, wu, wk0, wk1, wk2, wk3, Nat.reduceAdd, Nat.reduceEqDiff, Nat.reduceLeDiff, Nat.reduceLT, Nat.reduceMul, Int.reduceLE, Int.reduceLT, Int.reduceEq, Int.reduceNe, wk4, laidS, keepS, Try.results61, hb]) | (refine r_gcasesM (fun hp hb => ?_) (fun hp hb => ?_) <;> simp only [↓wt, wu, wk0, wk1, wk2, wk3, Nat.reduceAdd, Nat.reduceEqDiff, Nat.reduceLeDiff, Nat.reduceLT, Nat.reduceMul, Int.reduceLE, Int.reduceLT, Int.reduceEq, Int.reduceNe, wk4, laidS, keepS, Try.results61, hb]) | (refine r_gcasesB (fun hp hb => ?_) (fun hp hb => ?_) <;> simp only [↓wt, wu, wk0, wk1, wk2, wk3, Nat.reduceAdd, Nat.reduceEqDiff, Nat.reduceLeDiff, Nat.reduceLT, Nat.reduceMul, Int.reduceLE, Int.reduceLT, Int.reduceEq, Int.reduceNe, wk4, laidS, keepS, Try.results61, hb]) | ((with_reducible refine And.intro ?_ ?_); omega) | fail)
    exact exp_i (by rw [shareC, if_neg fun h => h1 h.1])
/-- How many numbers, up to a row. -/
def shN (l : List RowD) (k : Nat) : Int := l.length + isum (fun j => (rowAt l j).o.length) k
def Wide (l : List RowD) : Prop := l.length < 4611686018427387904 ∧ ∀ k, (rowAt l k).o.length < 4611686018427387904
theorem shN_mono (l : List RowD) {k m : Nat} (h : k ≤ m) : shN l k ≤ shN l m := by
  unfold shN
  have := isum_mono (f := fun j => ((rowAt l j).o.length : Int)) (fun j => by omega) h
  omega
def ShortB (l : List RowD) : Prop := shN l l.length ≤ 400
instance (l : List RowD) : Decidable (ShortB l) := by unfold ShortB; infer_instance
theorem short_call (l : List RowD) (hw : Wide l) : PCall Try.prog 24 [BooksV l] (.c (.bool (decide (ShortB l)))) := by
  obtain ⟨w1, w2⟩ := hw
  refine pcall_body tabOk Try.func24 rfl rfl (by rw [Try.ntmps24]; simp) ?_
  simp only [Try.ntmps24, BooksV]
  simp only [↓wt, wu, wk0, wk1, wk2, wk3, Nat.reduceAdd, Nat.reduceEqDiff, Nat.reduceLeDiff, Nat.reduceLT, Nat.reduceMul, Int.reduceLE, Int.reduceLT, Int.reduceEq, Int.reduceNe, wk4, laidS, keepS]
  refine loop_ruleC tabOk [0] (fun k : Nat => [(3, .c (.int .i64 (shN l k))), (4, .c (.int .i64 k))]) (fun k => k ≤ l.length ∧ (k = 0 ∨ shN l (k - 1) ≤ 400)) (fun k => l.length - k) 0 ⟨by omega, .inl rfl⟩ ?_ ?_
  · simp only [↓wt, wu, wk0, wk1, wk2, wk3, wkf, Nat.reduceAdd, Nat.reduceEqDiff, Nat.reduceLeDiff, Nat.reduceLT, Nat.reduceMul, Int.reduceLE, Int.reduceLT, Int.reduceEq, Int.reduceNe, wk4, laidS, keepS, shN, isum, Int.add_zero, underL_R]
    try trivial
  · rintro k ⟨h1, h2⟩
    have hk0 : 0 ≤ shN l k ∧ shN l k < 4611686018427388304 := by
      have := shN_mono l (Nat.zero_le k)
      have h0 : shN l 0 = l.length := by simp [shN, isum]
      refine ⟨by omega, ?_⟩
      rcases h2 with rfl | h2
      · omega
      · cases k with
        | zero => omega
        | succ k =>
          have : shN l (k + 1) = shN l k + (rowAt l k).o.length := by simp only [shN, isum]; omega
          have := w2 k
          simp only [Nat.add_sub_cancel] at h2
          omega
    simp only [↓wt, wu, wk0, wk1, wk2, wk3, Nat.reduceAdd, Nat.reduceEqDiff, Nat.reduceLeDiff, Nat.reduceLT, Nat.reduceMul, Int.reduceLE, Int.reduceLT, Int.reduceEq, Int.reduceNe, wk4, laidS, keepS]
    repeat' (first | (refine r_casesD (fun hp hb => ?_) (fun hp hb => ?_) <;> simp only [↓wt, wu, wk0, wk1, wk2, wk3, Nat.reduceAdd, Nat.reduceEqDiff, Nat.reduceLeDiff, Nat.reduceLT, Nat.reduceMul, Int.reduceLE, Int.reduceLT, Int.reduceEq, Int.reduceNe, wk4, laidS, keepS, hb]) | (refine r_casesN (fun hp hb => ?_) (fun hp hb => ?_) <;> simp only [↓wt, wu, wk0, wk1, wk2, wk3, Nat.reduceAdd, Nat.reduceEqDiff, Nat.reduceLeDiff, Nat.reduceLT, Nat.reduceMul, Int.reduceLE, Int.reduceLT, Int.reduceEq, Int.reduceNe, wk4, laidS, keepS, hb]) | (refine r_casesM (fun hp hb => ?_) (fun hp hb => ?_) <;> simp only [↓wt, wu, wk0, wk1, wk2, wk3, Nat.reduceAdd, Nat.reduceEqDiff, Nat.reduceLeDiff, Nat.reduceLT, Nat.reduceMul, Int.reduceLE, Int.reduceLT, Int.reduceEq, Int.reduceNe, wk4, laidS, keepS, hb]) | (refine r_casesB (fun hp hb => ?_) (fun hp hb => ?_) <;> simp only [↓wt, wu, wk0, wk1, wk2, wk3, Nat.reduceAdd, Nat.reduceEqDiff, Nat.reduceLeDiff, Nat.reduceLT, Nat.reduceMul, Int.reduceLE, Int.reduceLT, Int.reduceEq, Int.reduceNe, wk4, laidS, keepS, hb]) | (refine r_gcasesD (fun hp hb => ?_) (fun hp hb => ?_) <;> simp only [↓wt, wu, wk0, wk1, wk2, wk3, Nat.reduceAdd, Nat.reduceEqDiff, Nat.reduceLeDiff, Nat.reduceLT, Nat.reduceMul, Int.reduceLE, Int.reduceLT, Int.reduceEq, Int.reduceNe, wk4, laidS, keepS, hb]) | (refine r_gcasesN (fun hp hb => ?_) (fun hp hb => ?_) <;> simp only [↓wt, wu, wk0, wk1, wk2, wk3, Nat.reduceAdd, Nat.reduceEqDiff, Nat.reduceLeDiff, Nat.reduceLT, Nat.reduceMul, Int.reduceLE, Int.reduceLT, Int.reduceEq, Int.reduceNe, wk4, laidS, keepS, hb]) | (refine r_gcasesM (fun hp hb => ?_) (fun hp hb => ?_) <;> simp only [↓wt, wu, wk0, wk1, wk2, wk3, Nat.reduceAdd, Nat.reduceEqDiff, Nat.reduceLeDiff, Nat.reduceLT, Nat.reduceMul, Int.reduceLE, Int.reduceLT, Int.reduceEq, Int.reduceNe, wk4, laidS, keepS, hb]) | (refine r_gcasesB (fun hp hb => ?_) (fun hp hb => ?_) <;> simp only [↓wt, wu, wk0, wk1, wk2, wk3, Nat.reduceAdd, Nat.reduceEqDiff, Nat.reduceLeDiff, Nat.reduceLT, Nat.reduceMul, Int.reduceLE, Int.reduceLT, Int.reduceEq, Int.reduceNe, wk4, laidS, keepS, hb]) | ((with_reducible refine And.intro ?_ ?_); omega) | fail)
    · have e1 : IntKind.i64.wrap ((k : Int) + 1) = ((k + 1 : Nat) : Int) := by rw [wrap_i64 (by omega) (by omega)]; omega
      have e2 : IntKind.i64.wrap (shN l k + ((rowAt l k).o.length : Int)) = shN l (k + 1) := by
        have := w2 k
        rw [wrap_i64 (by omega) (by omega)]; simp only [shN, isum]; omega
      simp only [↓wt, wu, wk0, wk1, wk2, wk3, Nat.reduceAdd, Nat.reduceEqDiff, Nat.reduceLeDiff, Nat.reduceLT, Nat.reduceMul, Int.reduceLE, Int.reduceLT, Int.reduceEq, Int.reduceNe, wk4, laidS, keepS, elem_R, RowV_eq, e1, e2]
      repeat (refine And.intro (by omega) ?_)
      refine ⟨k + 1, ⟨by omega, .inr (by simpa using hp)⟩, by omega, ?_⟩
      simp only [↓wt, wu, wk0, wk1, wk2, wk3, wkf, Nat.reduceAdd, Nat.reduceEqDiff, Nat.reduceLeDiff, Nat.reduceLT, Nat.reduceMul, Int.reduceLE, Int.reduceLT, Int.reduceEq, Int.reduceNe, wk4, laidS, keepS, e1, e2, underL_R]
    · simp only [↓wt, wu, wk0, wk1, wk2, wk3, Nat.reduceAdd, Nat.reduceEqDiff, Nat.reduceLeDiff, Nat.reduceLT, Nat.reduceMul, Int.reduceLE, Int.reduceLT, Int.reduceEq, Int.reduceNe, wk4, laidS, keepS, Try.results24]
      refine exp_bF (p := ShortB l) ?_
      unfold ShortB
      have := shN_mono l h1
      omega
    · simp only [↓wt, wu, wk0, wk1, wk2, wk3, Nat.reduceAdd, Nat.reduceEqDiff, Nat.reduceLeDiff, Nat.reduceLT, Nat.reduceMul, Int.reduceLE, Int.reduceLT, Int.reduceEq, Int.reduceNe, wk4, laidS, keepS, Try.results24]
      have : k = l.length := by omega
      subst this
      exact exp_bE (q := shN l l.length ≤ 400) (p := ShortB l) Iff.rfl
def Lens (l : List RowD) : Prop := l.length < 1000000000 ∧ ∀ k, (rowAt l k).o.length < 1000000000
end Go.Ab
