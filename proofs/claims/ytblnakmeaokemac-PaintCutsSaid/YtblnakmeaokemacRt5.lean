/- Rights: the rights of a replica; the value. -/
import Derived.Test.YtblnakmeaokemacRt4
set_option linter.unusedSimpArgs false
set_option linter.unusedVariables false
set_option linter.constructorNameAsVariable false
set_option maxRecDepth 100000
namespace Go.Ab
open Go Go.Proofs Go.RowKit

def ofR (c : Conf) (l : List RowD) (w : Int) : Int := if RightB c l ∧ There c w then ofC c l w.toNat else 0
theorem there_nat {c : Conf} {l : List RowD} (h : RightB c l) {w : Int} (hw : There c w) : ((w.toNat : Nat) : Int) = w ∧ w.toNat < l.length := by
  have := h.2.1.1
  unfold There at hw
  omega
theorem of_call' (c : Conf) (l : List RowD) (h : RightB c l) (w : Int) (hw : There c w) : PCall Try.prog 48 [ConfA c, BooksV l, .c (.int .i64 w)] (.c (.int .i64 (ofC c l w.toNat))) := by
  have h1 := there_nat h hw
  have := of_call c l w.toNat h.1 h.2.1 h1.2
  rwa [h1.1] at this
theorem rof_call' (c : Conf) (l : List RowD) (h : RightB c l) (w : Int) (hw : There c w) : PCall Try.prog 38 [ConfA c, BooksV l, .c (.int .i64 w)] (.c (.int .i64 (ofC c l w.toNat))) := by
  have h1 := there_nat h hw
  have := rof_call c l w.toNat h.1 h.2.1 h1.2
  rwa [h1.1] at this
theorem Of_call (c : Conf) (l : List RowD) (w : Int) (hl : Lens l) : PCall Try.prog 51 [ConfA c, BooksV l, .c (.int .i64 w)] (.c (.int .i64 (ofR c l w))) := by
  have m1 := right_call c l hl
  have m2 := there_call c w
  refine pcall_body tabOk Try.func51 rfl rfl (by rw [Try.ntmps51]; simp) ?_
  simp only [Try.ntmps51, ConfA, BooksV]
  simp only [↓wt, wu, wk0, wk1, wk2, wk3, Nat.reduceAdd, Nat.reduceEqDiff, Nat.reduceLeDiff, Nat.reduceLT, Nat.reduceMul, Int.reduceLE, Int.reduceLT, Int.reduceEq, Int.reduceNe, wk4, laidS, keepS]
  refine icall_drop [] m1 ⟨arg_conf', arg_books, trivial⟩ (.c _) ?_
  simp only [↓wt, wu, wk0, wk1, wk2, wk3, Nat.reduceAdd, Nat.reduceEqDiff, Nat.reduceLeDiff, Nat.reduceLT, Nat.reduceMul, Int.reduceLE, Int.reduceLT, Int.reduceEq, Int.reduceNe, wk4, laidS, keepS]
  refine r_gcasesN (fun h1 hb => ?_) (fun h1 hb => ?_) <;> simp only [↓wt, wu, wk0, wk1, wk2, wk3, Nat.reduceAdd, Nat.reduceEqDiff, Nat.reduceLeDiff, Nat.reduceLT, Nat.reduceMul, Int.reduceLE, Int.reduceLT, Int.reduceEq, Int.reduceNe, wk4, laidS, keepS, hb]
  · refine icall_drop [] m2 ⟨arg_conf', arg_c, trivial⟩ (.c _) ?_
    simp only [↓wt, wu, wk0, wk1, wk2, wk3, Nat.reduceAdd, Nat.reduceEqDiff, Nat.reduceLeDiff, Nat.reduceLT, Nat.reduceMul, Int.reduceLE, Int.reduceLT, Int.reduceEq, Int.reduceNe, wk4, laidS, keepS]
    repeat' (first | (refine r_casesD (fun hp hb => ?_) (fun hp hb => ?_) <;> simp only [↓wt, wu, wk0, wk1, wk2, wk3, Nat.reduceAdd, Nat.reduceEqDiff, Nat.reduceLeDiff, Nat.reduceLT, Nat.reduceMul, Int.reduceLE, Int.reduceLT, Int.reduceEq, Int.reduceNe, wk4, laidS, keepS, hb]) | (refine r_casesN (fun hp hb => ?_) (fun hp hb => ?_) <;> simp only [↓wt, wu, wk0, wk1, wk2, wk3, Nat.reduceAdd, Nat.reduceEqDiff, Nat.reduceLeDiff, Nat.reduceLT, Nat.reduceMul, Int.reduceLE, Int.reduceLT, Int.reduceEq, Int.reduceNe, wk4, laidS, keepS, hb]) | (refine r_casesM (fun hp hb => ?_) (fun hp hb => ?_) <;> simp only [↓wt, wu, wk0, wk1, wk2, wk3, Nat.reduceAdd, Nat.reduceEqDiff, Nat.reduceLeDiff, Nat.reduceLT, Nat.reduceMul, Int.reduceLE, Int.reduceLT, Int.reduceEq, Int.reduceNe, wk4, laidS, keepS, hb]) | (refine r_casesB (fun hp hb => ?_) (fun hp hb => ?_) <;> simp only [↓wt, wu, wk0, wk1, wk2, wk3, Nat.reduceAdd, Nat.reduceEqDiff, Nat.reduceLeDiff, Nat.reduceLT, Nat.reduceMul, Int.reduceLE, Int.reduceLT, Int.reduceEq, Int.reduceNe, wk4, laidS, keepS, hb]) | (refine r_gcasesD (fun hp hb => ?_) (fun hp hb => ?_) <;> simp only [↓wt, wu, wk0, wk1, wk2, wk3, Nat.reduceAdd, Nat.reduceEqDiff, Nat.reduceLeDiff, Nat.reduceLT, Nat.reduceMul, Int.reduceLE, Int.reduceLT, Int.reduceEq, Int.reduceNe, wk4, laidS, keepS, hb]) | (refine r_gcasesN (fun hp hb => ?_) (fun hp hb => ?_) <;> simp only [↓wt, wu, wk0, wk1, wk2, wk3, Nat.reduceAdd, Nat.reduceEqDiff, Nat.reduceLeDiff, Nat.reduceLT, Nat.reduceMul, Int.reduceLE, Int.reduceLT, Int.reduceEq, Int.reduceNe, wk4, laidS, keepS, hb]) | (refine r_gcasesM (fun hp hb => ?_) (fun hp hb => ?_) <;> simp only [↓wt, wu, wk0, wk1, wk2, wk3, Nat.reduceAdd, Nat.reduceEqDiff, Nat.reduceLeDiff, Nat.reduceLT, Nat.reduceMul, Int.reduceLE, Int.reduceLT, Int.reduceEq, Int.reduceNe, wk4, laidS, keepS, hb]) | (refine r_gcasesB (fun hp hb => ?_) (fun hp hb => ?_) <;> simp only [↓wt, wu, wk0, wk1, wk2, wk3, Nat.reduceAdd, Nat.reduceEqDiff, Nat.reduceLeDiff, Nat.reduceLT, Nat.reduceMul, Int.reduceLE, Int.reduceLT, Int.reduceEq, Int.reduceNe, wk4, laidS, keepS, hb]) | ((with_reducible refine And.intro ?_ ?_); omega) | fail)
    · refine icall_drop [] (of_call' c l h1 w hp) ⟨arg_conf', arg_books, arg_c, trivial⟩ (.c _) ?_
      simp only [↓wt, wu, wk0, wk1, wk2, wk3, Nat.reduceAdd, Nat.reduceEqDiff, Nat.reduceLeDiff, Nat.reduceLT, Nat.reduceMul, Int.reduceLE, Int.reduceLT, Int.reduceEq, Int.reduceNe, wk4, laidS, keepS, Try.results51]
      exact exp_i (by rw [ofR, if_pos ⟨h1, hp⟩])
    · simp only [↓wt, wu, wk0, wk1, wk2, wk3, Nat.reduceAdd, Nat.reduceEqDiff, Nat.reduceLeDiff, Nat.reduceLT, Nat.reduceMul, Int.reduceLE, Int.reduceLT, Int.reduceEq, Int.reduceNe, wk4, laidS, keepS, Try.results51]
      exact exp_i (by rw [ofR, if_neg fun h => hp h.2])
  · simp only [↓wt, wu, wk0, wk1, wk2, wk3, Nat.reduceAdd, Nat.reduceEqDiff, Nat.reduceLeDiff, Nat.reduceLT, Nat.reduceMul, Int.reduceLE, Int.reduceLT, Int.reduceEq, Int.reduceNe, wk4, laidS, keepS, Try.results51]
    exact exp_i (by rw [ofR, if_neg fun h => h1 h.1])
theorem rOf_call (c : Conf) (l : List RowD) (w : Int) (hl : Lens l) : PCall Try.prog 23 [ConfA c, BooksV l, .c (.int .i64 w)] (.c (.int .i64 (ofR c l w))) := by
  have m1 := rright_call c l hl
  refine pcall_body tabOk Try.func23 rfl rfl (by rw [Try.ntmps23]; simp) ?_
  simp only [Try.ntmps23, ConfA, BooksV]
  simp only [↓wt, wu, wk0, wk1, wk2, wk3, Nat.reduceAdd, Nat.reduceEqDiff, Nat.reduceLeDiff, Nat.reduceLT, Nat.reduceMul, Int.reduceLE, Int.reduceLT, Int.reduceEq, Int.reduceNe, wk4, laidS, keepS]
  refine icall_drop [] m1 ⟨arg_conf', arg_books, trivial⟩ (.c _) ?_
  simp only [↓wt, wu, wk0, wk1, wk2, wk3, Nat.reduceAdd, Nat.reduceEqDiff, Nat.reduceLeDiff, Nat.reduceLT, Nat.reduceMul, Int.reduceLE, Int.reduceLT, Int.reduceEq, Int.reduceNe, wk4, laidS, keepS]
  refine r_gcasesN (fun h1 hb => ?_) (fun h1 hb => ?_) <;> simp only [↓wt, wu, wk0, wk1, wk2, wk3, Nat.reduceAdd, Nat.reduceEqDiff, Nat.reduceLeDiff, Nat.reduceLT, Nat.reduceMul, Int.reduceLE, Int.reduceLT, Int.reduceEq, Int.reduceNe, wk4, laidS, keepS, hb]
  · repeat' (first | (refine r_casesD (fun hp hb => ?_) (fun hp hb => ?_) <;> simp only [↓wt, wu, wk0, wk1, wk2, wk3, Nat.reduceAdd, Nat.reduceEqDiff, Nat.reduceLeDiff, Nat.reduceLT, Nat.reduceMul, Int.reduceLE, Int.reduceLT, Int.reduceEq, Int.reduceNe, wk4, laidS, keepS, hb]) | (refine r_casesN (fun hp hb => ?_) (fun hp hb => ?_) <;> simp only [↓wt, wu, wk0, wk1, wk2, wk3, Nat.reduceAdd, Nat.reduceEqDiff, Nat.reduceLeDiff, Nat.reduceLT, Nat.reduceMul, Int.reduceLE, Int.reduceLT, Int.reduceEq, Int.reduceNe, wk4, laidS, keepS, hb]) | (refine r_casesM (fun hp hb => ?_) (fun hp hb => ?_) <;> simp only [↓wt, wu, wk0, wk1, wk2, wk3, Nat.reduceAdd, Nat.reduceEqDiff, Nat.reduceLeDiff, Nat.reduceLT, Nat.reduceMul, Int.reduceLE, Int.reduceLT, Int.reduceEq, Int.reduceNe, wk4, laidS, keepS, hb]) | (refine r_casesB (fun hp hb => ?_) (fun hp hb => ?_) <;> simp only [↓wt, wu, wk0, wk1, wk2, wk3, Nat.reduceAdd, Nat.reduceEqDiff, Nat.reduceLeDiff, Nat.reduceLT, Nat.reduceMul, Int.reduceLE, Int.reduceLT, Int.reduceEq, Int.reduceNe, wk4, laidS, keepS, hb]) | (refine r_gcasesD (fun hp hb => ?_) (fun hp hb => ?_) <;> simp only [↓wt, wu, wk0, wk1, wk2, wk3, Nat.reduceAdd, Nat.reduceEqDiff, Nat.reduceLeDiff, Nat.reduceLT, Nat.reduceMul, Int.reduceLE, Int.reduceLT, Int.reduceEq, Int.reduceNe, wk4, laidS, keepS, hb]) | (refine r_gcasesN (fun hp hb => ?_) (fun hp hb => ?_) <;> simp only [↓wt, wu, wk0, wk1, wk2, wk3, Nat.reduceAdd, Nat.reduceEqDiff, Nat.reduceLeDiff, Nat.reduceLT, Nat.reduceMul, Int.reduceLE, Int.reduceLT, Int.reduceEq, Int.reduceNe, wk4, laidS, keepS, hb]) | (refine r_gcasesM (fun hp hb => ?_) (fun hp hb => ?_) <;> simp only [↓wt, wu, wk0, wk1, wk2, wk3, Nat.reduceAdd, Nat.reduceEqDiff, Nat.reduceLeDiff, Nat.reduceLT, Nat.reduceMul, Int.reduceLE, Int.reduceLT, Int.reduceEq, Int.reduceNe, wk4, laidS, keepS, hb]) | (refine r_gcasesB (fun hp hb => ?_) (fun hp hb => ?_) <;> simp only [↓wt, wu, wk0, wk1, wk2, wk3, Nat.reduceAdd, Nat.reduceEqDiff, Nat.reduceLeDiff, Nat.reduceLT, Nat.reduceMul, Int.reduceLE, Int.reduceLT, Int.reduceEq, Int.reduceNe, wk4, laidS, keepS, hb]) | ((with_reducible refine And.intro ?_ ?_); omega) | fail)
    · simp only [↓wt, wu, wk0, wk1, wk2, wk3, Nat.reduceAdd, Nat.reduceEqDiff, Nat.reduceLeDiff, Nat.reduceLT, Nat.reduceMul, Int.reduceLE, Int.reduceLT, Int.reduceEq, Int.reduceNe, wk4, laidS, keepS, Try.results23]
      exact exp_i (by rw [ofR, if_neg fun h => by have := h.2.1; omega])
    · simp only [↓wt, wu, wk0, wk1, wk2, wk3, Nat.reduceAdd, Nat.reduceEqDiff, Nat.reduceLeDiff, Nat.reduceLT, Nat.reduceMul, Int.reduceLE, Int.reduceLT, Int.reduceEq, Int.reduceNe, wk4, laidS, keepS, Try.results23]
      exact exp_i (by rw [ofR, if_neg fun h => by have := h.2.2; omega])
    · have ht : There c w := ⟨by omega, by omega⟩
      refine icall_drop [] (rof_call' c l h1 w ht) ⟨arg_conf', arg_books, arg_c, trivial⟩ (.c _) ?_
      simp only [↓wt, wu, wk0, wk1, wk2, wk3, Nat.reduceAdd, Nat.reduceEqDiff, Nat.reduceLeDiff, Nat.reduceLT, Nat.reduceMul, Int.reduceLE, Int.reduceLT, Int.reduceEq, Int.reduceNe, wk4, laidS, keepS, Try.results23]
      exact exp_i (by rw [ofR, if_pos ⟨h1, ht⟩])
  · simp only [↓wt, wu, wk0, wk1, wk2, wk3, Nat.reduceAdd, Nat.reduceEqDiff, Nat.reduceLeDiff, Nat.reduceLT, Nat.reduceMul, Int.reduceLE, Int.reduceLT, Int.reduceEq, Int.reduceNe, wk4, laidS, keepS, Try.results23]
    exact exp_i (by rw [ofR, if_neg fun h => h1 h.1])
/-- The value of books: what there was, and what came in, less what was taken. -/
def net (l : List RowD) (k : Nat) : Int := isum (fun j => (rowAt l j).i - (rowAt l j).u) k
def valC (c : Conf) (l : List RowD) : Int := if RightB c l then c.k + net l l.length else 0
theorem net_bnd {c : Conf} {l : List RowD} (hc : MayC c) (h : RowsOk c l) {k : Nat} (hk : k ≤ l.length) : -17592186044416 ≤ net l k ∧ net l k ≤ 17592186044416 := by
  have hn := hc.1
  have h1 := h.1
  have := isum_bnd (f := fun j => (rowAt l j).i - (rowAt l j).u) (lo := -1099511627776) (hi := 1099511627776) (k := k) fun j hj => by
    have := h.row hc (w := j) (by omega)
    omega
  unfold net
  omega
theorem share_sum {c : Conf} (hc : MayC c) {n : Nat} (hn : (n : Int) = c.n) : isum (fun w => shareC c w) n = c.k := by
  have hq := share_q hc
  have hf : ∀ w, w < n → shareC c w = if (w : Int) < c.k % c.n then c.k / c.n + 1 else c.k / c.n := fun w hw => by
    rw [shareC, if_pos ⟨hc, by omega, by omega⟩]
  have key : ∀ m, m ≤ n → isum (fun w => shareC c w) m = m * (c.k / c.n) + min (m : Int) (c.k % c.n) := by
    intro m
    induction m with
    | zero => intro _; simp only [isum]; omega
    | succ m ih =>
      intro h
      simp only [isum]
      rw [ih (by omega), hf m (by omega), Int.natCast_add, Int.add_mul]
      split <;> omega
  rw [key n (Nat.le_refl _), hn, Int.mul_comm]
  omega
/-- All rights together are the value. -/
theorem of_sum {c : Conf} {l : List RowD} (hc : MayC c) (h : RowsOk c l) : isum (fun w => ofC c l w) l.length = c.k + net l l.length := by
  have hs : isum (fun w => shareC c w) l.length = c.k := share_sum hc h.1
  have h1 : isum (fun w => came l w l.length) l.length = isum (fun j => sentR (rowAt l j).o) l.length := by
    unfold came
    rw [isum_swap (fun w j => (rowAt l j).o.getD w 0)]
    refine isum_congr fun j hj => ?_
    have hr := h.row hc hj
    rw [sent_isum (by omega) hr.2.2.2.2.1, hr.1]
  have h2 : isum (fun w => ofC c l w) l.length = isum (fun w => shareC c w) l.length + isum (fun w => came l w l.length) l.length - isum (fun j => sentR (rowAt l j).o) l.length + net l l.length := by
    unfold net
    rw [← isum_add, ← isum_sub, ← isum_add]
    refine isum_congr fun w _ => ?_
    unfold ofC; omega
  rw [h2, hs, h1]; omega
end Go.Ab
