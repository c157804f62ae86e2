/- Tapes: the reference's May; first, held, lost. -/
import Derived.Test.YtdnhojfkjgggbaaDoorTq4
set_option linter.unusedSimpArgs false
set_option linter.unusedVariables false
set_option linter.constructorNameAsVariable false
set_option maxRecDepth 100000
namespace Go.Ab
open Go Go.Proofs Go.RowKit

theorem rmay_call (a b c d : List UInt8) (ha : Fit8 a) (hb : Fit8 b) (hc : Fit8 c) (hd : Fit8 d) : PCall Tryd.prog 58 [TapeA a b c d] (.c (.bool (decide (total a b c d ≤ 65536)))) := by
  have h1 := rbytes_call a b ha hb
  have h2 := rbytes_call c d hc hd
  unfold Fit8 at ha hb hc hd
  refine pcall_body tabOk Tryd.func58 rfl rfl (by rw [Tryd.ntmps58]; simp) ?_
  simp only [Tryd.ntmps58, TapeA, Bs]
  simp only [↓wt, wu, wk0, wk1, wk2, wk3, Nat.reduceAdd, Nat.reduceEqDiff, Nat.reduceLeDiff, Nat.reduceLT, Nat.reduceMul, Int.reduceLE, Int.reduceLT, Int.reduceEq, Int.reduceNe, wk4, laidS, keepS]
  refine freeze_rule 0 [1, 2] ?_ ?_ ?_
  · simp only [↓wt, wu, wk0, wk1, wk2, wk3, Nat.reduceAdd, Nat.reduceEqDiff, Nat.reduceLeDiff, Nat.reduceLT, Nat.reduceMul, Int.reduceLE, Int.reduceLT, Int.reduceEq, Int.reduceNe, wk4, laidS, keepS]
  · simp only [↓wt, wu, wk0, wk1, wk2, wk3, Nat.reduceAdd, Nat.reduceEqDiff, Nat.reduceLeDiff, Nat.reduceLT, Nat.reduceMul, Int.reduceLE, Int.reduceLT, Int.reduceEq, Int.reduceNe, wk4, laidS, keepS]
    exact fun _ => by simp only [pureL_eq, underL_cons, underL_nil, AV.cells, under_l, underL_B, List.mem_cons, List.not_mem_nil, or_false, forall_eq_or_imp, forall_eq, and_self]
  simp only [↓wt, wu, wk0, wk1, wk2, wk3, Nat.reduceAdd, Nat.reduceEqDiff, Nat.reduceLeDiff, Nat.reduceLT, Nat.reduceMul, Int.reduceLE, Int.reduceLT, Int.reduceEq, Int.reduceNe, wk4, laidS, keepS]
  refine draw_rule tabOk mixed [0, 0, 1, 0, 0, 0, 1, 0, 0, 0, 0] [[], [0], [0, 1], [0, 1, 2], [], [4], [0, 1, 2, 4, 5], [0, 1, 2, 4, 5, 6], [0, 1, 2, 3, 4, 5, 6, 7], [0, 1, 2, 3, 4, 5, 6, 7, 8], [0, 1, 2, 3, 4, 5, 6, 7, 8, 9]] (by kernel_rfl) ?_
  simp only [↓wt, wu, wk0, wk1, wk2, wk3, Nat.reduceAdd, Nat.reduceEqDiff, Nat.reduceLeDiff, Nat.reduceLT, Nat.reduceMul, Int.reduceLE, Int.reduceLT, Int.reduceEq, Int.reduceNe, wk4, laidS, keepS]
  refine d_heavyC (icall_drop [] h1 ⟨arg_area, trivial⟩ okR_Bs ⟨rfl, rfl⟩) ?_
  simp only [↓wt, wu, wk0, wk1, wk2, wk3, Nat.reduceAdd, Nat.reduceEqDiff, Nat.reduceLeDiff, Nat.reduceLT, Nat.reduceMul, Int.reduceLE, Int.reduceLT, Int.reduceEq, Int.reduceNe, wk4, laidS, keepS, Bs]
  refine d_heavyC (icall_drop [] h2 ⟨arg_area, trivial⟩ okR_Bs ⟨rfl, rfl⟩) ?_
  have e1 : IntKind.i64.wrap (((a.length + b.length : Nat) : Int) + ((c.length + d.length : Nat) : Int)) = (total a b c d : Int) := by rw [wrap_i64 (by omega) (by omega)]; unfold total; omega
  simp only [↓wt, wu, wk0, wk1, wk2, wk3, Nat.reduceAdd, Nat.reduceEqDiff, Nat.reduceLeDiff, Nat.reduceLT, Nat.reduceMul, Int.reduceLE, Int.reduceLT, Int.reduceEq, Int.reduceNe, wk4, laidS, keepS, Bs, e1, Tryd.results58]
  refine exp_b (p := total a b c d ≤ 65536) ?_
  rw [decide_eq_decide]; omega
theorem first_call (b : List UInt8) (n : Int) (h1 : -9223372036854775808 ≤ n) (h2 : n < 9223372036854775808) (hb : Fit8 b) : PCall Tryd.prog 54 [Bs b, .c (.int .i64 n)] (Bs (b.take n.toNat)) := by
  unfold Fit8 at hb
  refine pcall_body tabOk Tryd.func54 rfl rfl (by rw [Tryd.ntmps54]; simp) ?_
  simp only [Tryd.ntmps54, Bs]
  have e1 : (if (b.length : Int) < if 0 > n then 0 else n then (b.length : Int) else if 0 > n then 0 else n) = ((min n.toNat b.length : Nat) : Int) := by split <;> split <;> omega
  have e2 : b.take n.toNat = b.take (min n.toNat b.length) := List.take_eq_take_min
  rw [e2]
  simp only [↓wt, wu, wk0, wk1, wk2, wk3, Nat.reduceAdd, Nat.reduceEqDiff, Nat.reduceLeDiff, Nat.reduceLT, Nat.reduceMul, Int.reduceLE, Int.reduceLT, Int.reduceEq, Int.reduceNe, wk4, laidS, keepS, e1]
  refine ⟨by omega, by omega, ?_⟩
  simp only [↓wt, wu, wk0, wk1, wk2, wk3, Nat.reduceAdd, Nat.reduceEqDiff, Nat.reduceLeDiff, Nat.reduceLT, Nat.reduceMul, Int.reduceLE, Int.reduceLT, Int.reduceEq, Int.reduceNe, wk4, laidS, keepS, e1, Tryd.results54]
  exact exp_self okR_Bs
def hld (n : Int) (l : Nat) : Nat := min n.toNat l
theorem held_call (n : Int) (l : Nat) : PCall Tryd.prog 65 [.c (.int .i64 n), .c (.int .i64 l)] (.c (.int .i64 (hld n l))) := by
  refine pcall_body tabOk Tryd.func65 rfl rfl (by rw [Tryd.ntmps65]; simp) ?_
  simp only [Tryd.ntmps65]
  simp only [↓wt, wu, wk0, wk1, wk2, wk3, Nat.reduceAdd, Nat.reduceEqDiff, Nat.reduceLeDiff, Nat.reduceLT, Nat.reduceMul, Int.reduceLE, Int.reduceLT, Int.reduceEq, Int.reduceNe, wk4, laidS, keepS]
  refine r_casesP (fun hc => ?_) (fun hc => ?_)
  · simp only [↓wt, wu, wk0, wk1, wk2, wk3, Nat.reduceAdd, Nat.reduceEqDiff, Nat.reduceLeDiff, Nat.reduceLT, Nat.reduceMul, Int.reduceLE, Int.reduceLT, Int.reduceEq, Int.reduceNe, wk4, laidS, keepS, Tryd.results65]
    rw [show ((hld n l : Nat) : Int) = 0 by unfold hld; omega]; exact exp_c
  · simp only [↓wt, wu, wk0, wk1, wk2, wk3, Nat.reduceAdd, Nat.reduceEqDiff, Nat.reduceLeDiff, Nat.reduceLT, Nat.reduceMul, Int.reduceLE, Int.reduceLT, Int.reduceEq, Int.reduceNe, wk4, laidS, keepS, Tryd.results65]
    refine r_casesP (fun hc => ?_) (fun hc => ?_)
    · simp only [↓wt, wu, wk0, wk1, wk2, wk3, Nat.reduceAdd, Nat.reduceEqDiff, Nat.reduceLeDiff, Nat.reduceLT, Nat.reduceMul, Int.reduceLE, Int.reduceLT, Int.reduceEq, Int.reduceNe, wk4, laidS, keepS, Tryd.results65]
      rw [show ((hld n l : Nat) : Int) = l by unfold hld; omega]; exact exp_c
    · simp only [↓wt, wu, wk0, wk1, wk2, wk3, Nat.reduceAdd, Nat.reduceEqDiff, Nat.reduceLeDiff, Nat.reduceLT, Nat.reduceMul, Int.reduceLE, Int.reduceLT, Int.reduceEq, Int.reduceNe, wk4, laidS, keepS, Tryd.results65]
      rw [show ((hld n l : Nat) : Int) = n by unfold hld; omega]; exact exp_c
theorem okR_area {s l : List UInt8} : OkR (Under 0) (AreaA s l) := ⟨okR_Bs, okR_Bs, trivial⟩
theorem okR_tape {a b c d : List UInt8} : OkR (Under 0) (TapeA a b c d) := ⟨okR_Bs, okR_Bs, okR_Bs, okR_Bs, trivial⟩
theorem lost_call (s l : List UInt8) (n : Int) (hs : Fit8 s) (hl : Fit8 l) : PCall Tryd.prog 60 [AreaA s l, .c (.int .i64 n)] (AreaA (s ++ l.take n.toNat) []) := by
  have h1 := rbytes_call s l hs hl
  unfold Fit8 at hs hl
  refine pcall_body tabOk Tryd.func60 rfl rfl (by rw [Tryd.ntmps60]; simp) ?_
  simp only [Tryd.ntmps60, AreaA, Bs]
  simp only [↓wt, wu, wk0, wk1, wk2, wk3, Nat.reduceAdd, Nat.reduceEqDiff, Nat.reduceLeDiff, Nat.reduceLT, Nat.reduceMul, Int.reduceLE, Int.reduceLT, Int.reduceEq, Int.reduceNe, wk4, laidS, keepS]
  refine freeze_rule 0 [1, 2, 4, 5] ?_ ?_ ?_
  · simp only [↓wt, wu, wk0, wk1, wk2, wk3, Nat.reduceAdd, Nat.reduceEqDiff, Nat.reduceLeDiff, Nat.reduceLT, Nat.reduceMul, Int.reduceLE, Int.reduceLT, Int.reduceEq, Int.reduceNe, wk4, laidS, keepS]
  · simp only [↓wt, wu, wk0, wk1, wk2, wk3, Nat.reduceAdd, Nat.reduceEqDiff, Nat.reduceLeDiff, Nat.reduceLT, Nat.reduceMul, Int.reduceLE, Int.reduceLT, Int.reduceEq, Int.reduceNe, wk4, laidS, keepS]
    exact fun _ => by simp only [pureL_eq, underL_cons, underL_nil, AV.cells, under_l, underL_B, List.mem_cons, List.not_mem_nil, or_false, forall_eq_or_imp, forall_eq, and_self]
  simp only [↓wt, wu, wk0, wk1, wk2, wk3, Nat.reduceAdd, Nat.reduceEqDiff, Nat.reduceLeDiff, Nat.reduceLT, Nat.reduceMul, Int.reduceLE, Int.reduceLT, Int.reduceEq, Int.reduceNe, wk4, laidS, keepS]
  refine draw_rule tabOk mixed [0, 0, 0, 0, 0, 0, 0, 1, 0, 0] [[], [0], [0, 1], [], [], [4], [4, 5], [3, 4, 5, 6], [0, 1, 2, 3, 4, 5, 6, 7], [0, 1, 2, 3, 4, 5, 6, 7, 8]] (by kernel_rfl) ?_
  simp only [↓wt, wu, wk0, wk1, wk2, wk3, Nat.reduceAdd, Nat.reduceEqDiff, Nat.reduceLeDiff, Nat.reduceLT, Nat.reduceMul, Int.reduceLE, Int.reduceLT, Int.reduceEq, Int.reduceNe, wk4, laidS, keepS]
  refine d_heavyC (icall_drop [] (held_call n l.length) ⟨arg_c, arg_c, trivial⟩ (.c _) ⟨rfl, rfl⟩) ?_
  have hh : hld n l.length ≤ l.length := by unfold hld; omega
  have e1 : IntKind.i64.wrap ((s.length : Int) + (hld n l.length : Int)) = ((s.length + hld n l.length : Nat) : Int) := by rw [wrap_i64 (by omega) (by omega)]; omega
  simp only [↓wt, wu, wk0, wk1, wk2, wk3, Nat.reduceAdd, Nat.reduceEqDiff, Nat.reduceLeDiff, Nat.reduceLT, Nat.reduceMul, Int.reduceLE, Int.reduceLT, Int.reduceEq, Int.reduceNe, wk4, laidS, keepS, e1]
  refine icall_drop [] h1 ⟨arg_area, trivial⟩ okR_Bs ?_
  simp only [↓wt, wu, wk0, wk1, wk2, wk3, Nat.reduceAdd, Nat.reduceEqDiff, Nat.reduceLeDiff, Nat.reduceLT, Nat.reduceMul, Int.reduceLE, Int.reduceLT, Int.reduceEq, Int.reduceNe, wk4, laidS, keepS, Bs, e1]
  refine ⟨by omega, by omega, ?_⟩
  simp only [↓wt, wu, wk0, wk1, wk2, wk3, Nat.reduceAdd, Nat.reduceEqDiff, Nat.reduceLeDiff, Nat.reduceLT, Nat.reduceMul, Int.reduceLE, Int.reduceLT, Int.reduceEq, Int.reduceNe, wk4, laidS, keepS, Tryd.results60]
  have hx : List.take (s.length + hld n l.length) (s ++ l) = s ++ l.take n.toNat := by
    rw [List.take_length_add_append, hld, ← List.take_eq_take_min]
  exact exp_gw ⟨res_B hx, okR_Bs, trivial, okR_nil, trivial⟩
theorem rlose_call (a b c d : List UInt8) (n : Int) (ha : Fit8 a) (hb : Fit8 b) (hc : Fit8 c) (hd : Fit8 d) : PCall Tryd.prog 46 [TapeA a b c d, .c (.int .i64 n)] (TapeA (a ++ b.take n.toNat) [] (c ++ d.take n.toNat) []) := by
  have h1 := lost_call a b n ha hb
  have h2 := lost_call c d n hc hd
  unfold Fit8 at ha hb hc hd
  refine pcall_body tabOk Tryd.func46 rfl rfl (by rw [Tryd.ntmps46]; simp) ?_
  simp only [Tryd.ntmps46, TapeA, Bs]
  simp only [↓wt, wu, wk0, wk1, wk2, wk3, Nat.reduceAdd, Nat.reduceEqDiff, Nat.reduceLeDiff, Nat.reduceLT, Nat.reduceMul, Int.reduceLE, Int.reduceLT, Int.reduceEq, Int.reduceNe, wk4, laidS, keepS]
  refine freeze_rule 0 [1, 2, 4] ?_ ?_ ?_
  · simp only [↓wt, wu, wk0, wk1, wk2, wk3, Nat.reduceAdd, Nat.reduceEqDiff, Nat.reduceLeDiff, Nat.reduceLT, Nat.reduceMul, Int.reduceLE, Int.reduceLT, Int.reduceEq, Int.reduceNe, wk4, laidS, keepS]
  · simp only [↓wt, wu, wk0, wk1, wk2, wk3, Nat.reduceAdd, Nat.reduceEqDiff, Nat.reduceLeDiff, Nat.reduceLT, Nat.reduceMul, Int.reduceLE, Int.reduceLT, Int.reduceEq, Int.reduceNe, wk4, laidS, keepS]
    exact fun _ => by simp only [pureL_eq, underL_cons, underL_nil, AV.cells, under_l, underL_B, List.mem_cons, List.not_mem_nil, or_false, forall_eq_or_imp, forall_eq, and_self]
  simp only [↓wt, wu, wk0, wk1, wk2, wk3, Nat.reduceAdd, Nat.reduceEqDiff, Nat.reduceLeDiff, Nat.reduceLT, Nat.reduceMul, Int.reduceLE, Int.reduceLT, Int.reduceEq, Int.reduceNe, wk4, laidS, keepS]
  refine draw_rule tabOk mixed [0, 0, 0, 1, 0, 0, 0, 1, 1, 1] [[], [0], [], [0, 1, 2], [], [4], [], [0, 1, 2, 3, 4, 5, 6], [0, 1, 2, 3, 4, 5, 6, 7], [0, 1, 2, 3, 4, 5, 6, 7, 8]] (by kernel_rfl) ?_
  simp only [↓wt, wu, wk0, wk1, wk2, wk3, Nat.reduceAdd, Nat.reduceEqDiff, Nat.reduceLeDiff, Nat.reduceLT, Nat.reduceMul, Int.reduceLE, Int.reduceLT, Int.reduceEq, Int.reduceNe, wk4, laidS, keepS]
  refine d_heavyC (icall_drop [] h1 ⟨arg_area, arg_c, trivial⟩ okR_area ⟨rfl, rfl⟩) ?_
  simp only [↓wt, wu, wk0, wk1, wk2, wk3, Nat.reduceAdd, Nat.reduceEqDiff, Nat.reduceLeDiff, Nat.reduceLT, Nat.reduceMul, Int.reduceLE, Int.reduceLT, Int.reduceEq, Int.reduceNe, wk4, laidS, keepS, AreaA, Bs]
  refine d_heavyC (icall_drop [] h2 ⟨arg_area, arg_c, trivial⟩ okR_area ⟨rfl, rfl⟩) ?_
  simp only [↓wt, wu, wk0, wk1, wk2, wk3, Nat.reduceAdd, Nat.reduceEqDiff, Nat.reduceLeDiff, Nat.reduceLT, Nat.reduceMul, Int.reduceLE, Int.reduceLT, Int.reduceEq, Int.reduceNe, wk4, laidS, keepS, AreaA, Bs]
  refine d_heavyX (by simp only [↓wt, wu, wk0, wk1, wk2, wk3, Nat.reduceAdd, Nat.reduceEqDiff, Nat.reduceLeDiff, Nat.reduceLT, Nat.reduceMul, Int.reduceLE, Int.reduceLT, Int.reduceEq, Int.reduceNe, wk4, laidS, keepS]; (repeat (first | refine And.intro (by omega) ?_ | refine And.intro (pureB _) ?_ | refine And.intro (pureI _) ?_ | refine And.intro ⟨pureB _, pureB _⟩ ?_ | refine And.intro ⟨pureB _, pureI _⟩ ?_ | refine And.intro ⟨pureI _, pureB _⟩ ?_ | refine And.intro ⟨pureI _, pureI _⟩ ?_)); exact ⟨rfl, rfl⟩) ?_
  simp only [↓wt, wu, wk0, wk1, wk2, wk3, Nat.reduceAdd, Nat.reduceEqDiff, Nat.reduceLeDiff, Nat.reduceLT, Nat.reduceMul, Int.reduceLE, Int.reduceLT, Int.reduceEq, Int.reduceNe, wk4, laidS, keepS]
  refine d_heavyX (by simp only [↓wt, wu, wk0, wk1, wk2, wk3, Nat.reduceAdd, Nat.reduceEqDiff, Nat.reduceLeDiff, Nat.reduceLT, Nat.reduceMul, Int.reduceLE, Int.reduceLT, Int.reduceEq, Int.reduceNe, wk4, laidS, keepS]; (repeat (first | refine And.intro (by omega) ?_ | refine And.intro (pureB _) ?_ | refine And.intro (pureI _) ?_ | refine And.intro ⟨pureB _, pureB _⟩ ?_ | refine And.intro ⟨pureB _, pureI _⟩ ?_ | refine And.intro ⟨pureI _, pureB _⟩ ?_ | refine And.intro ⟨pureI _, pureI _⟩ ?_)); exact ⟨rfl, rfl⟩) ?_
  simp only [↓wt, wu, wk0, wk1, wk2, wk3, Nat.reduceAdd, Nat.reduceEqDiff, Nat.reduceLeDiff, Nat.reduceLT, Nat.reduceMul, Int.reduceLE, Int.reduceLT, Int.reduceEq, Int.reduceNe, wk4, laidS, keepS, Tryd.results46]
  exact exp_gw ⟨.refl _, okR_Bs, .refl _, okR_nil, .refl _, okR_Bs, .refl _, okR_nil, trivial⟩
end Go.Ab
