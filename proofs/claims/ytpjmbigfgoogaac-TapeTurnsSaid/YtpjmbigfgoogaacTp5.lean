/- Tapes: the reference's May; first, held, lost. -/
import Derived.Test.YtpjmbigfgoogaacTp4
set_option linter.unusedSimpArgs false
set_option linter.unusedVariables false
set_option linter.constructorNameAsVariable false
set_option maxRecDepth 100000
namespace Go.Ab
open Go Go.Proofs Go.RowKit

theorem rmay_call (a b c d : List UInt8) (ha : Fit8 a) (hb : Fit8 b) (hc : Fit8 c) (hd : Fit8 d) : PCall Try.prog 16 [TapeA a b c d] (.c (.bool (decide (total a b c d ≤ 65536)))) := by
  have h1 := rbytes_call a b ha hb
  have h2 := rbytes_call c d hc hd
  unfold Fit8 at ha hb hc hd
  refine pcall_body tabOk Try.func16 rfl rfl (by rw [Try.ntmps16]; simp) ?_
  simp only [Try.ntmps16, TapeA, Bs]
  simp only [↓wt, wu, wk0, wk1, wk2, wk3, Nat.reduceAdd, Nat.reduceEqDiff, Nat.reduceLeDiff, Nat.reduceLT, Nat.reduceMul, Int.reduceLE, Int.reduceLT, Int.reduceEq, Int.reduceNe, List.flatMap_cons, List.flatMap_nil]
  refine freeze_rule 0 [1, 2] ?_ ?_ ?_
  · simp only [↓wt, wu, wk0, wk1, wk2, wk3, Nat.reduceAdd, Nat.reduceEqDiff, Nat.reduceLeDiff, Nat.reduceLT, Nat.reduceMul, Int.reduceLE, Int.reduceLT, Int.reduceEq, Int.reduceNe, List.flatMap_cons, List.flatMap_nil]
  · simp only [↓wt, wu, wk0, wk1, wk2, wk3, Nat.reduceAdd, Nat.reduceEqDiff, Nat.reduceLeDiff, Nat.reduceLT, Nat.reduceMul, Int.reduceLE, Int.reduceLT, Int.reduceEq, Int.reduceNe, List.flatMap_cons, List.flatMap_nil]
    exact fun _ => by simp only [pureL_eq, underL_cons, underL_nil, AV.cells, under_l, underL_B, List.mem_cons, List.not_mem_nil, or_false, forall_eq_or_imp, forall_eq, and_self]
  simp only [↓wt, wu, wk0, wk1, wk2, wk3, Nat.reduceAdd, Nat.reduceEqDiff, Nat.reduceLeDiff, Nat.reduceLT, Nat.reduceMul, Int.reduceLE, Int.reduceLT, Int.reduceEq, Int.reduceNe, List.flatMap_cons, List.flatMap_nil]
  refine draw_rule tabOk mixed [0, 0, 1, 0, 0, 0, 1, 0, 0, 0, 0] [[], [0], [0, 1], [0, 1, 2], [], [4], [0, 1, 2, 4, 5], [0, 1, 2, 4, 5, 6], [0, 1, 2, 3, 4, 5, 6, 7], [0, 1, 2, 3, 4, 5, 6, 7, 8], [0, 1, 2, 3, 4, 5, 6, 7, 8, 9]] (by kernel_rfl) ?_
  simp only [↓wt, wu, wk0, wk1, wk2, wk3, Nat.reduceAdd, Nat.reduceEqDiff, Nat.reduceLeDiff, Nat.reduceLT, Nat.reduceMul, Int.reduceLE, Int.reduceLT, Int.reduceEq, Int.reduceNe, List.flatMap_cons, List.flatMap_nil]
  refine d_heavyC (icall_drop [] h1 ⟨arg_area, trivial⟩ okR_Bs ⟨rfl, rfl⟩) ?_
  simp only [↓wt, wu, wk0, wk1, wk2, wk3, Nat.reduceAdd, Nat.reduceEqDiff, Nat.reduceLeDiff, Nat.reduceLT, Nat.reduceMul, Int.reduceLE, Int.reduceLT, Int.reduceEq, Int.reduceNe, List.flatMap_cons, List.flatMap_nil, Bs]
  refine d_heavyC (icall_drop [] h2 ⟨arg_area, trivial⟩ okR_Bs ⟨rfl, rfl⟩) ?_
  have e1 : IntKind.i64.wrap (((a.length + b.length : Nat) : Int) + ((c.length + d.length : Nat) : Int)) = (total a b c d : Int) := by rw [wrap_i64 (by omega) (by omega)]; unfold total; omega
  simp only [↓wt, wu, wk0, wk1, wk2, wk3, Nat.reduceAdd, Nat.reduceEqDiff, Nat.reduceLeDiff, Nat.reduceLT, Nat.reduceMul, Int.reduceLE, Int.reduceLT, Int.reduceEq, Int.reduceNe, List.flatMap_cons, List.flatMap_nil, Bs, e1, Try.results16]
  refine exp_b (p := total a b c d ≤ 65536) ?_
  rw [decide_eq_decide]; omega
theorem first_call (b : List UInt8) (n : Int) (h1 : -9223372036854775808 ≤ n) (h2 : n < 9223372036854775808) (hb : Fit8 b) : PCall Try.prog 27 [Bs b, .c (.int .i64 n)] (Bs (b.take n.toNat)) := by
  unfold Fit8 at hb
  refine pcall_body tabOk Try.func27 rfl rfl (by rw [Try.ntmps27]; simp) ?_
  simp only [Try.ntmps27, Bs]
  have e1 : (if (b.length : Int) < if 0 > n then 0 else n then (b.length : Int) else if 0 > n then 0 else n) = ((min n.toNat b.length : Nat) : Int) := by split <;> split <;> omega
  have e2 : b.take n.toNat = b.take (min n.toNat b.length) := List.take_eq_take_min
  rw [e2]
  simp only [↓wt, wu, wk0, wk1, wk2, wk3, Nat.reduceAdd, Nat.reduceEqDiff, Nat.reduceLeDiff, Nat.reduceLT, Nat.reduceMul, Int.reduceLE, Int.reduceLT, Int.reduceEq, Int.reduceNe, List.flatMap_cons, List.flatMap_nil, e1]
  refine ⟨by omega, by omega, ?_⟩
  simp only [↓wt, wu, wk0, wk1, wk2, wk3, Nat.reduceAdd, Nat.reduceEqDiff, Nat.reduceLeDiff, Nat.reduceLT, Nat.reduceMul, Int.reduceLE, Int.reduceLT, Int.reduceEq, Int.reduceNe, List.flatMap_cons, List.flatMap_nil, e1, Try.results27]
  exact exp_self okR_Bs
def hld (n : Int) (l : Nat) : Nat := min n.toNat l
theorem held_call (n : Int) (l : Nat) : PCall Try.prog 28 [.c (.int .i64 n), .c (.int .i64 l)] (.c (.int .i64 (hld n l))) := by
  refine pcall_body tabOk Try.func28 rfl rfl (by rw [Try.ntmps28]; simp) ?_
  simp only [Try.ntmps28]
  simp only [↓wt, wu, wk0, wk1, wk2, wk3, Nat.reduceAdd, Nat.reduceEqDiff, Nat.reduceLeDiff, Nat.reduceLT, Nat.reduceMul, Int.reduceLE, Int.reduceLT, Int.reduceEq, Int.reduceNe, List.flatMap_cons, List.flatMap_nil]
  refine r_casesP (fun hc => ?_) (fun hc => ?_)
  · simp only [↓wt, wu, wk0, wk1, wk2, wk3, Nat.reduceAdd, Nat.reduceEqDiff, Nat.reduceLeDiff, Nat.reduceLT, Nat.reduceMul, Int.reduceLE, Int.reduceLT, Int.reduceEq, Int.reduceNe, List.flatMap_cons, List.flatMap_nil, Try.results28]
    rw [show ((hld n l : Nat) : Int) = 0 by unfold hld; omega]; exact exp_c
  · simp only [↓wt, wu, wk0, wk1, wk2, wk3, Nat.reduceAdd, Nat.reduceEqDiff, Nat.reduceLeDiff, Nat.reduceLT, Nat.reduceMul, Int.reduceLE, Int.reduceLT, Int.reduceEq, Int.reduceNe, List.flatMap_cons, List.flatMap_nil, Try.results28]
    refine r_casesP (fun hc => ?_) (fun hc => ?_)
    · simp only [↓wt, wu, wk0, wk1, wk2, wk3, Nat.reduceAdd, Nat.reduceEqDiff, Nat.reduceLeDiff, Nat.reduceLT, Nat.reduceMul, Int.reduceLE, Int.reduceLT, Int.reduceEq, Int.reduceNe, List.flatMap_cons, List.flatMap_nil, Try.results28]
      rw [show ((hld n l : Nat) : Int) = l by unfold hld; omega]; exact exp_c
    · simp only [↓wt, wu, wk0, wk1, wk2, wk3, Nat.reduceAdd, Nat.reduceEqDiff, Nat.reduceLeDiff, Nat.reduceLT, Nat.reduceMul, Int.reduceLE, Int.reduceLT, Int.reduceEq, Int.reduceNe, List.flatMap_cons, List.flatMap_nil, Try.results28]
      rw [show ((hld n l : Nat) : Int) = n by unfold hld; omega]; exact exp_c
theorem okR_nil {k sz : Nat} : Under k (.l sz []) := .l _ _ fun i h => absurd h (by simp)
theorem okR_area {s l : List UInt8} : OkR (Under 0) (AreaA s l) := ⟨okR_Bs, okR_Bs, trivial⟩
theorem okR_tape {a b c d : List UInt8} : OkR (Under 0) (TapeA a b c d) := ⟨okR_Bs, okR_Bs, okR_Bs, okR_Bs, trivial⟩
/-- Results that are data. -/
def ResL : List AV → List AV → Prop
  | [], [] => True
  | a :: r, b :: s => Weak1 a b ∧ Under 0 b ∧ ResL r s
  | _, _ => False
theorem ResL.weak : ∀ {l m : List AV}, ResL l m → WeakL l m ∧ ∀ i (h : i < m.length), Under 0 m[i]
  | [], [], _ => ⟨trivial, fun i h => absurd h (by simp)⟩
  | a :: r, b :: s, h => ⟨⟨h.1, h.2.2.weak.1⟩, fun i hi => match i, hi with
    | 0, _ => h.2.1
    | i + 1, hi => h.2.2.weak.2 i (by simpa using hi)⟩
  | [], _ :: _, h => h.elim
  | _ :: _, [], h => h.elim
theorem exp_gw {M : Mem} {l m : List AV} (h : ResL l m) : Exp M (.g l) (.g m) := exp_g (by show WeakL _ _; exact h.weak.1) (.g m h.weak.2)
theorem res_B {l m : List UInt8} (h : l = m) : Weak1 (.l 1 (l.map encB)) (.l 1 (m.map encB)) := h ▸ .refl _
theorem lost_call (s l : List UInt8) (n : Int) (hs : Fit8 s) (hl : Fit8 l) : PCall Try.prog 29 [AreaA s l, .c (.int .i64 n)] (AreaA (s ++ l.take n.toNat) []) := by
  have h1 := rbytes_call s l hs hl
  unfold Fit8 at hs hl
  refine pcall_body tabOk Try.func29 rfl rfl (by rw [Try.ntmps29]; simp) ?_
  simp only [Try.ntmps29, AreaA, Bs]
  simp only [↓wt, wu, wk0, wk1, wk2, wk3, Nat.reduceAdd, Nat.reduceEqDiff, Nat.reduceLeDiff, Nat.reduceLT, Nat.reduceMul, Int.reduceLE, Int.reduceLT, Int.reduceEq, Int.reduceNe, List.flatMap_cons, List.flatMap_nil]
  refine freeze_rule 0 [1, 2, 4, 5] ?_ ?_ ?_
  · simp only [↓wt, wu, wk0, wk1, wk2, wk3, Nat.reduceAdd, Nat.reduceEqDiff, Nat.reduceLeDiff, Nat.reduceLT, Nat.reduceMul, Int.reduceLE, Int.reduceLT, Int.reduceEq, Int.reduceNe, List.flatMap_cons, List.flatMap_nil]
  · simp only [↓wt, wu, wk0, wk1, wk2, wk3, Nat.reduceAdd, Nat.reduceEqDiff, Nat.reduceLeDiff, Nat.reduceLT, Nat.reduceMul, Int.reduceLE, Int.reduceLT, Int.reduceEq, Int.reduceNe, List.flatMap_cons, List.flatMap_nil]
    exact fun _ => by simp only [pureL_eq, underL_cons, underL_nil, AV.cells, under_l, underL_B, List.mem_cons, List.not_mem_nil, or_false, forall_eq_or_imp, forall_eq, and_self]
  simp only [↓wt, wu, wk0, wk1, wk2, wk3, Nat.reduceAdd, Nat.reduceEqDiff, Nat.reduceLeDiff, Nat.reduceLT, Nat.reduceMul, Int.reduceLE, Int.reduceLT, Int.reduceEq, Int.reduceNe, List.flatMap_cons, List.flatMap_nil]
  refine draw_rule tabOk mixed [0, 0, 0, 0, 0, 0, 0, 1, 0, 0] [[], [0], [0, 1], [], [], [4], [4, 5], [3, 4, 5, 6], [0, 1, 2, 3, 4, 5, 6, 7], [0, 1, 2, 3, 4, 5, 6, 7, 8]] (by kernel_rfl) ?_
  simp only [↓wt, wu, wk0, wk1, wk2, wk3, Nat.reduceAdd, Nat.reduceEqDiff, Nat.reduceLeDiff, Nat.reduceLT, Nat.reduceMul, Int.reduceLE, Int.reduceLT, Int.reduceEq, Int.reduceNe, List.flatMap_cons, List.flatMap_nil]
  refine d_heavyC (icall_drop [] (held_call n l.length) ⟨arg_c, arg_c, trivial⟩ (.c _) ⟨rfl, rfl⟩) ?_
  have hh : hld n l.length ≤ l.length := by unfold hld; omega
  have e1 : IntKind.i64.wrap ((s.length : Int) + (hld n l.length : Int)) = ((s.length + hld n l.length : Nat) : Int) := by rw [wrap_i64 (by omega) (by omega)]; omega
  simp only [↓wt, wu, wk0, wk1, wk2, wk3, Nat.reduceAdd, Nat.reduceEqDiff, Nat.reduceLeDiff, Nat.reduceLT, Nat.reduceMul, Int.reduceLE, Int.reduceLT, Int.reduceEq, Int.reduceNe, List.flatMap_cons, List.flatMap_nil, e1]
  refine icall_drop [] h1 ⟨arg_area, trivial⟩ okR_Bs ?_
  simp only [↓wt, wu, wk0, wk1, wk2, wk3, Nat.reduceAdd, Nat.reduceEqDiff, Nat.reduceLeDiff, Nat.reduceLT, Nat.reduceMul, Int.reduceLE, Int.reduceLT, Int.reduceEq, Int.reduceNe, List.flatMap_cons, List.flatMap_nil, Bs, e1]
  refine ⟨by omega, by omega, ?_⟩
  simp only [↓wt, wu, wk0, wk1, wk2, wk3, Nat.reduceAdd, Nat.reduceEqDiff, Nat.reduceLeDiff, Nat.reduceLT, Nat.reduceMul, Int.reduceLE, Int.reduceLT, Int.reduceEq, Int.reduceNe, List.flatMap_cons, List.flatMap_nil, Try.results29]
  have hx : List.take (s.length + hld n l.length) (s ++ l) = s ++ l.take n.toNat := by
    rw [List.take_length_add_append, hld, ← List.take_eq_take_min]
  exact exp_gw ⟨res_B hx, okR_Bs, trivial, okR_nil, trivial⟩
theorem rlose_call (a b c d : List UInt8) (n : Int) (ha : Fit8 a) (hb : Fit8 b) (hc : Fit8 c) (hd : Fit8 d) : PCall Try.prog 24 [TapeA a b c d, .c (.int .i64 n)] (TapeA (a ++ b.take n.toNat) [] (c ++ d.take n.toNat) []) := by
  have h1 := lost_call a b n ha hb
  have h2 := lost_call c d n hc hd
  unfold Fit8 at ha hb hc hd
  refine pcall_body tabOk Try.func24 rfl rfl (by rw [Try.ntmps24]; simp) ?_
  simp only [Try.ntmps24, TapeA, Bs]
  simp only [↓wt, wu, wk0, wk1, wk2, wk3, Nat.reduceAdd, Nat.reduceEqDiff, Nat.reduceLeDiff, Nat.reduceLT, Nat.reduceMul, Int.reduceLE, Int.reduceLT, Int.reduceEq, Int.reduceNe, List.flatMap_cons, List.flatMap_nil]
  refine freeze_rule 0 [1, 2, 4] ?_ ?_ ?_
  · simp only [↓wt, wu, wk0, wk1, wk2, wk3, Nat.reduceAdd, Nat.reduceEqDiff, Nat.reduceLeDiff, Nat.reduceLT, Nat.reduceMul, Int.reduceLE, Int.reduceLT, Int.reduceEq, Int.reduceNe, List.flatMap_cons, List.flatMap_nil]
  · simp only [↓wt, wu, wk0, wk1, wk2, wk3, Nat.reduceAdd, Nat.reduceEqDiff, Nat.reduceLeDiff, Nat.reduceLT, Nat.reduceMul, Int.reduceLE, Int.reduceLT, Int.reduceEq, Int.reduceNe, List.flatMap_cons, List.flatMap_nil]
    exact fun _ => by simp only [pureL_eq, underL_cons, underL_nil, AV.cells, under_l, underL_B, List.mem_cons, List.not_mem_nil, or_false, forall_eq_or_imp, forall_eq, and_self]
  simp only [↓wt, wu, wk0, wk1, wk2, wk3, Nat.reduceAdd, Nat.reduceEqDiff, Nat.reduceLeDiff, Nat.reduceLT, Nat.reduceMul, Int.reduceLE, Int.reduceLT, Int.reduceEq, Int.reduceNe, List.flatMap_cons, List.flatMap_nil]
  refine draw_rule tabOk mixed [0, 0, 0, 1, 0, 0, 0, 1, 1, 1] [[], [0], [], [0, 1, 2], [], [4], [], [0, 1, 2, 3, 4, 5, 6], [0, 1, 2, 3, 4, 5, 6, 7], [0, 1, 2, 3, 4, 5, 6, 7, 8]] (by kernel_rfl) ?_
  simp only [↓wt, wu, wk0, wk1, wk2, wk3, Nat.reduceAdd, Nat.reduceEqDiff, Nat.reduceLeDiff, Nat.reduceLT, Nat.reduceMul, Int.reduceLE, Int.reduceLT, Int.reduceEq, Int.reduceNe, List.flatMap_cons, List.flatMap_nil]
  refine d_heavyC (icall_drop [] h1 ⟨arg_area, arg_c, trivial⟩ okR_area ⟨rfl, rfl⟩) ?_
  simp only [↓wt, wu, wk0, wk1, wk2, wk3, Nat.reduceAdd, Nat.reduceEqDiff, Nat.reduceLeDiff, Nat.reduceLT, Nat.reduceMul, Int.reduceLE, Int.reduceLT, Int.reduceEq, Int.reduceNe, List.flatMap_cons, List.flatMap_nil, AreaA, Bs]
  refine d_heavyC (icall_drop [] h2 ⟨arg_area, arg_c, trivial⟩ okR_area ⟨rfl, rfl⟩) ?_
  simp only [↓wt, wu, wk0, wk1, wk2, wk3, Nat.reduceAdd, Nat.reduceEqDiff, Nat.reduceLeDiff, Nat.reduceLT, Nat.reduceMul, Int.reduceLE, Int.reduceLT, Int.reduceEq, Int.reduceNe, List.flatMap_cons, List.flatMap_nil, AreaA, Bs]
  refine d_heavyX (by simp only [↓wt, wu, wk0, wk1, wk2, wk3, Nat.reduceAdd, Nat.reduceEqDiff, Nat.reduceLeDiff, Nat.reduceLT, Nat.reduceMul, Int.reduceLE, Int.reduceLT, Int.reduceEq, Int.reduceNe, List.flatMap_cons, List.flatMap_nil]; (repeat (first | refine And.intro (by omega) ?_ | refine And.intro (pureB _) ?_ | refine And.intro ⟨pureB _, pureB _⟩ ?_)); exact ⟨rfl, rfl⟩) ?_
  simp only [↓wt, wu, wk0, wk1, wk2, wk3, Nat.reduceAdd, Nat.reduceEqDiff, Nat.reduceLeDiff, Nat.reduceLT, Nat.reduceMul, Int.reduceLE, Int.reduceLT, Int.reduceEq, Int.reduceNe, List.flatMap_cons, List.flatMap_nil]
  refine d_heavyX (by simp only [↓wt, wu, wk0, wk1, wk2, wk3, Nat.reduceAdd, Nat.reduceEqDiff, Nat.reduceLeDiff, Nat.reduceLT, Nat.reduceMul, Int.reduceLE, Int.reduceLT, Int.reduceEq, Int.reduceNe, List.flatMap_cons, List.flatMap_nil]; (repeat (first | refine And.intro (by omega) ?_ | refine And.intro (pureB _) ?_ | refine And.intro ⟨pureB _, pureB _⟩ ?_)); exact ⟨rfl, rfl⟩) ?_
  simp only [↓wt, wu, wk0, wk1, wk2, wk3, Nat.reduceAdd, Nat.reduceEqDiff, Nat.reduceLeDiff, Nat.reduceLT, Nat.reduceMul, Int.reduceLE, Int.reduceLT, Int.reduceEq, Int.reduceNe, List.flatMap_cons, List.flatMap_nil, Try.results24]
  exact exp_gw ⟨.refl _, okR_Bs, .refl _, okR_nil, .refl _, okR_Bs, .refl _, okR_nil, trivial⟩
end Go.Ab
