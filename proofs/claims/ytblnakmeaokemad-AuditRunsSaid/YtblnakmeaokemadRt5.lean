/- Rights: the rights of a replica; the value. -/
import Derived.Test.YtblnakmeaokemadRt4
set_option linter.unusedSimpArgs false
set_option linter.unusedVariables false
set_option linter.constructorNameAsVariable false
set_option maxRecDepth 100000
namespace Go.Ab
open Go Go.Proofs Go.RowKit

def ofR (c : Conf) (l : List RowD) (w : Int) : Int := if RightB c l ∧ There c w then ofC c l w.toNat else 0
theorem there_nat {c : Conf} {l : List RowD} (h : RightB c l) {w : Int} (hw : There c w) : ((w.toNat : Nat) : Int) = w ∧ w.toNat < l.length := by
  have := h.2.1.1
  unfold There at hw
  omega
theorem of_call' (c : Conf) (l : List RowD) (h : RightB c l) (w : Int) (hw : There c w) : PCall Try.prog 59 [ConfA c, BooksV l, .c (.int .i64 w)] (.c (.int .i64 (ofC c l w.toNat))) := by
  have h1 := there_nat h hw
  have := of_call c l w.toNat h.1 h.2.1 h1.2
  rwa [h1.1] at this
theorem rof_call' (c : Conf) (l : List RowD) (h : RightB c l) (w : Int) (hw : There c w) : PCall Try.prog 49 [ConfA c, BooksV l, .c (.int .i64 w)] (.c (.int .i64 (ofC c l w.toNat))) := by
  have h1 := there_nat h hw
  have := rof_call c l w.toNat h.1 h.2.1 h1.2
  rwa [h1.1] at this
/-- The value of books: what there was, and what came in, less what was taken. -/
def net (l : List RowD) (k : Nat) : Int := isum (fun j => (rowAt l j).i - (rowAt l j).u) k
def valC (c : Conf) (l : List RowD) : Int := if RightB c l then c.k + net l l.length else 0
theorem net_bnd {c : Conf} {l : List RowD} (hc : MayC c) (h : RowsOk c l) {k : Nat} (hk : k ≤ l.length) : -17592186044416 ≤ net l k ∧ net l k ≤ 17592186044416 := by
  have hn := hc.1
  have h1 := h.1
  have := isum_bnd (f := fun j => (rowAt l j).i - (rowAt l j).u) (lo := -1099511627776) (hi := 1099511627776) (k := k) fun j hj => by
    have := h.row hc (w := j) (by omega)
    omega
  unfold net
  omega
theorem share_sum {c : Conf} (hc : MayC c) {n : Nat} (hn : (n : Int) = c.n) : isum (fun w => shareC c w) n = c.k := by
  have hq := share_q hc
  have hf : ∀ w, w < n → shareC c w = if (w : Int) < c.k % c.n then c.k / c.n + 1 else c.k / c.n := fun w hw => by
    rw [shareC, if_pos ⟨hc, by omega, by omega⟩]
  have key : ∀ m, m ≤ n → isum (fun w => shareC c w) m = m * (c.k / c.n) + min (m : Int) (c.k % c.n) := by
    intro m
    induction m with
    | zero => intro _; simp only [isum]; omega
    | succ m ih =>
      intro h
      simp only [isum]
      rw [ih (by omega), hf m (by omega), Int.natCast_add, Int.add_mul]
      split <;> omega
  rw [key n (Nat.le_refl _), hn, Int.mul_comm]
  omega
/-- All rights together are the value. -/
theorem of_sum {c : Conf} {l : List RowD} (hc : MayC c) (h : RowsOk c l) : isum (fun w => ofC c l w) l.length = c.k + net l l.length := by
  have hs : isum (fun w => shareC c w) l.length = c.k := share_sum hc h.1
  have h1 : isum (fun w => came l w l.length) l.length = isum (fun j => sentR (rowAt l j).o) l.length := by
    unfold came
    rw [isum_swap (fun w j => (rowAt l j).o.getD w 0)]
    refine isum_congr fun j hj => ?_
    have hr := h.row hc hj
    rw [sent_isum (by omega) hr.2.2.2.2.1, hr.1]
  have h2 : isum (fun w => ofC c l w) l.length = isum (fun w => shareC c w) l.length + isum (fun w => came l w l.length) l.length - isum (fun j => sentR (rowAt l j).o) l.length + net l l.length := by
    unfold net
    rw [← isum_add, ← isum_sub, ← isum_add]
    refine isum_congr fun w _ => ?_
    unfold ofC; omega
  rw [h2, hs, h1]; omega
theorem rvalue_call (c : Conf) (l : List RowD) (hl : Lens l) : PCall Try.prog 29 [ConfA c, BooksV l] (.c (.int .i64 (valC c l))) := by
  have m1 := rright_call c l hl
  have hl1 := hl.1
  refine pcall_body tabOk Try.func29 rfl rfl (by rw [Try.ntmps29]; simp) ?_
  simp only [Try.ntmps29, ConfA, BooksV]
  simp only [↓wt, wu, wk0, wk1, wk2, wk3, Nat.reduceAdd, Nat.reduceEqDiff, Nat.reduceLeDiff, Nat.reduceLT, Nat.reduceMul, Int.reduceLE, Int.reduceLT, Int.reduceEq, Int.reduceNe, wk4, laidS, keepS]
  refine loop_ruleC tabOk [1, 2] (fun k : Nat => [(5, .c (.int .i64 (isum (fun w => ofC c l w) k))), (6, .c (.int .i64 k))]) (fun k => k ≤ l.length ∧ (0 < k → RightB c l)) (fun k => l.length - k) 0 ⟨by omega, fun h => absurd h (by omega)⟩ ?_ ?_
  · simp only [↓wt, wu, wk0, wk1, wk2, wk3, wkf, Nat.reduceAdd, Nat.reduceEqDiff, Nat.reduceLeDiff, Nat.reduceLT, Nat.reduceMul, Int.reduceLE, Int.reduceLT, Int.reduceEq, Int.reduceNe, wk4, laidS, keepS, isum, underL_R]
  · rintro k ⟨hk, hG⟩
    simp only [↓wt, wu, wk0, wk1, wk2, wk3, Nat.reduceAdd, Nat.reduceEqDiff, Nat.reduceLeDiff, Nat.reduceLT, Nat.reduceMul, Int.reduceLE, Int.reduceLT, Int.reduceEq, Int.reduceNe, wk4, laidS, keepS]
    refine icall_keep [] m1 ⟨arg_conf', arg_books, trivial⟩ (.c _) ?_
    simp only [↓wt, wu, wk0, wk1, wk2, wk3, Nat.reduceAdd, Nat.reduceEqDiff, Nat.reduceLeDiff, Nat.reduceLT, Nat.reduceMul, Int.reduceLE, Int.reduceLT, Int.reduceEq, Int.reduceNe, wk4, laidS, keepS]
    refine r_gcasesD (fun h1 hb => ?_) (fun h1 hb => ?_) <;> simp only [↓wt, wu, wk0, wk1, wk2, wk3, Nat.reduceAdd, Nat.reduceEqDiff, Nat.reduceLeDiff, Nat.reduceLT, Nat.reduceMul, Int.reduceLE, Int.reduceLT, Int.reduceEq, Int.reduceNe, wk4, laidS, keepS, hb]
    · have hn := h1.2.1.1
      have ho : ∀ w, w < l.length → 0 ≤ ofC c l w ∧ ofC c l w ≤ 100000000000000000 := fun w hw => by
        refine ⟨h1.2.2 w hw, ?_⟩
        have b1 := share_bnd c w
        have b2 := came_bnd (h1.2.1.inW h1.1 hw) (Nat.le_refl _)
        have b3 := sent_bnd (rowAt l w).o
        have b4 := h1.2.1.row h1.1 hw
        unfold ofC; omega
      repeat' (first | (refine r_casesD (fun hp hb => ?_) (fun hp hb => ?_) <;> simp only [↓wt, wu, wk0, wk1, wk2, wk3, Nat.reduceAdd, Nat.reduceEqDiff, Nat.reduceLeDiff, Nat.reduceLT, Nat.reduceMul, Int.reduceLE, Int.reduceLT, Int.reduceEq, Int.reduceNe, wk4, laidS, keepS, hb]) | (refine r_casesN (fun hp hb => ?_) (fun hp hb => ?_) <;> simp only [↓wt, wu, wk0, wk1, wk2, wk3, Nat.reduceAdd, Nat.reduceEqDiff, Nat.reduceLeDiff, Nat.reduceLT, Nat.reduceMul, Int.reduceLE, Int.reduceLT, Int.reduceEq, Int.reduceNe, wk4, laidS, keepS, hb]) | (refine r_casesM (fun hp hb => ?_) (fun hp hb => ?_) <;> simp only [↓wt, wu, wk0, wk1, wk2, wk3, Nat.reduceAdd, Nat.reduceEqDiff, Nat.reduceLeDiff, Nat.reduceLT, Nat.reduceMul, Int.reduceLE, Int.reduceLT, Int.reduceEq, Int.reduceNe, wk4, laidS, keepS, hb]) | (refine r_casesB (fun hp hb => ?_) (fun hp hb => ?_) <;> simp only [↓wt, wu, wk0, wk1, wk2, wk3, Nat.reduceAdd, Nat.reduceEqDiff, Nat.reduceLeDiff, Nat.reduceLT, Nat.reduceMul, Int.reduceLE, Int.reduceLT, Int.reduceEq, Int.reduceNe, wk4, laidS, keepS, hb]) | (refine r_gcasesD (fun hp hb => ?_) (fun hp hb => ?_) <;> simp only [↓wt, wu, wk0, wk1, wk2, wk3, Nat.reduceAdd, Nat.reduceEqDiff, Nat.reduceLeDiff, Nat.reduceLT, Nat.reduceMul, Int.reduceLE, Int.reduceLT, Int.reduceEq, Int.reduceNe, wk4, laidS, keepS, hb]) | (refine r_gcasesN (fun hp hb => ?_) (fun hp hb => ?_) <;> simp only [↓wt, wu, wk0, wk1, wk2, wk3, Nat.reduceAdd, Nat.reduceEqDiff, Nat.reduceLeDiff, Nat.reduceLT, Nat.reduceMul, Int.reduceLE, Int.reduceLT, Int.reduceEq, Int.reduceNe, wk4, laidS, keepS, hb]) | (refine r_gcasesM (fun hp hb => ?_) (fun hp hb => ?_) <;> simp only [↓wt, wu, wk0, wk1, wk2, wk3, Nat.reduceAdd, Nat.reduceEqDiff, Nat.reduceLeDiff, Nat.reduceLT, Nat.reduceMul, Int.reduceLE, Int.reduceLT, Int.reduceEq, Int.reduceNe, wk4, laidS, keepS, hb]) | (refine r_gcasesB (fun hp hb => ?_) (fun hp hb => ?_) <;> simp only [↓wt, wu, wk0, wk1, wk2, wk3, Nat.reduceAdd, Nat.reduceEqDiff, Nat.reduceLeDiff, Nat.reduceLT, Nat.reduceMul, Int.reduceLE, Int.reduceLT, Int.reduceEq, Int.reduceNe, wk4, laidS, keepS, hb]) | ((with_reducible refine And.intro ?_ ?_); omega) | fail)
      · have hkl : k < l.length := by omega
        have e3 := wi_succ (k := k) (by omega)
        have hn16 := h1.1.1
        have b1 := isum_bnd (f := fun w => ofC c l w) (lo := 0) (hi := 100000000000000000) (k := k) fun j hj => ho j (by omega)
        have b2 := ho k hkl
        have e4 : IntKind.i64.wrap (isum (fun w => ofC c l w) k + ofC c l k) = isum (fun w => ofC c l w) (k + 1) := by rw [wrap_i64 (by omega) (by omega)]; rfl
        refine icall_keep [] (rof_call c l k h1.1 h1.2.1 hkl) ⟨arg_conf', arg_books, arg_c, trivial⟩ (.c _) ?_
        simp only [↓wt, wu, wk0, wk1, wk2, wk3, Nat.reduceAdd, Nat.reduceEqDiff, Nat.reduceLeDiff, Nat.reduceLT, Nat.reduceMul, Int.reduceLE, Int.reduceLT, Int.reduceEq, Int.reduceNe, wk4, laidS, keepS, e3, e4]
        refine ⟨k + 1, ⟨by omega, fun _ => h1⟩, by omega, ?_⟩
        simp only [↓wt, wu, wk0, wk1, wk2, wk3, wkf, Nat.reduceAdd, Nat.reduceEqDiff, Nat.reduceLeDiff, Nat.reduceLT, Nat.reduceMul, Int.reduceLE, Int.reduceLT, Int.reduceEq, Int.reduceNe, wk4, laidS, keepS, e3, e4, underL_R]
      · simp only [↓wt, wu, wk0, wk1, wk2, wk3, Nat.reduceAdd, Nat.reduceEqDiff, Nat.reduceLeDiff, Nat.reduceLT, Nat.reduceMul, Int.reduceLE, Int.reduceLT, Int.reduceEq, Int.reduceNe, wk4, laidS, keepS, Try.results29]
        have : k = l.length := by omega
        subst this
        exact exp_i (by rw [valC, if_pos h1, of_sum h1.1 h1.2.1])
    · simp only [↓wt, wu, wk0, wk1, wk2, wk3, Nat.reduceAdd, Nat.reduceEqDiff, Nat.reduceLeDiff, Nat.reduceLT, Nat.reduceMul, Int.reduceLE, Int.reduceLT, Int.reduceEq, Int.reduceNe, wk4, laidS, keepS, Try.results29]
      have : k = 0 := by
        rcases Nat.eq_zero_or_pos k with h | h
        · exact h
        · exact absurd (hG h) h1
      subst this
      exact exp_i (by rw [valC, if_neg h1]; rfl)
end Go.Ab
