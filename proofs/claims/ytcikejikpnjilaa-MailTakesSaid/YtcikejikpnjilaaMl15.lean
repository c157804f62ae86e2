/- Mail: answers that the document fixes. -/
import Derived.Test.YtcikejikpnjilaaTMl8
import Derived.Test.YtcikejikpnjilaaMl6
import Derived.Test.YtcikejikpnjilaaTRt15
import Derived.Test.YtcikejikpnjilaaAbG10
set_option linter.unusedSimpArgs false
set_option linter.unusedVariables false
set_option linter.constructorNameAsVariable false
set_option maxRecDepth 100000
namespace Go.Ab
open Go Go.Proofs Go.RowKit

def c16 : Conf := ⟨2, 1, 0, 1, 0, 0⟩
def l16 : List RowD := [⟨0, 0, [0, 0]⟩, ⟨0, 0, [0, 0]⟩]
def m16 : MailD := ⟨1, 0, 3, l16, 0, 0, 0, 0, 0, 0, [(0, 0), (0, 0)]⟩
theorem new16 : newB c16 = l16 := by decide +kernel
theorem may16 : MayM c16 m16 := by
  refine ⟨by decide, by decide, by decide, by decide, ?_, rfl, rfl, ?_, by decide⟩
  · have := newB_right (c := c16) (by decide)
    rw [new16] at this; exact this
  · intro k hk
    have : k = 0 ∨ k = 1 := by have : k < 2 := hk; omega
    rcases this with rfl | rfl <;> decide
theorem enc16 : ∃ r, encM m16 = 1 :: 0 :: 3 :: r := by
  refine ⟨encN (numsB m16.r) ++ encN (tailL m16), ?_⟩
  have p1 : putL (uNat 1) = [1] := putL_low (by decide)
  have p0 : putL (uNat 0) = [0] := putL_low (by decide)
  have p3 : putL (uNat 3) = [3] := putL_low (by decide)
  show encN [1, 0, 3] ++ _ = _
  rw [encN, encN, encN, encN, p1, p0, p3]
  rfl
theorem no16 : mailT c16 (encM m16 ++ [0]) = (m00, false) := by
  have h := mailP_put may16 [0]
  rw [mailT, h, if_neg (fun g => by simp at g)]
set_option maxHeartbeats 4000000 in
theorem mlaw_call : PCall Try.prog 6 [] (.c (.bool true)) := by
  obtain ⟨b, hb⟩ : ∃ b, b = encM m16 := ⟨_, rfl⟩
  obtain ⟨r, hr⟩ := enc16
  rw [← hb] at hr
  have hl : b.length ≤ 1000 := by
    have h := encK_len (m := m16) (k := m16.e.length)
    rw [encK_all, ← hb] at h
    exact Nat.le_trans h (by decide)
  have hl2 : 2 < b.length := by rw [hr]; simp
  have m1 := mlput_own m16 (by decide) (by decide) (by decide) (by decide)
  rw [← hb] at m1
  have m2 := mltake_call c16 b (by omega)
  rw [show mailT c16 b = (m16, true) by rw [hb]; exact mailT_put may16] at m2
  have m3 := mltake_call c16 (b ++ [0]) (by rw [List.length_append]; simp; omega)
  rw [show mailT c16 (b ++ [0]) = (m00, false) by rw [hb]; exact no16] at m3
  have e0 : Bs (b ++ [0]) = .l 1 (b.map encB ++ [.c (.int .u8 0)]) := by simp [Bs, encB]
  have hp0 : PureL (b.map encB ++ [.c (.int .u8 0)]) := by
    have := pureB (b ++ [0])
    rw [List.map_append] at this
    exact this
  rw [e0] at m3
  have hw0 : (b.map encB ++ [AV.c (.int .u8 0)]).take b.length = b.map encB := by
    rw [List.take_append_of_le_length (by simp), List.take_of_length_le (by simp)]
  have x1 : decide ((b.length : Int) > 2) = true := decide_eq_true (by omega)
  have x2 : decide (m16.ck = 3) = true := by decide
  have y1 : decide (((b.getD 0 0).toNat : Int) = 1) = true := by rw [hr]; rfl
  have y2 : decide (((b.getD 1 0).toNat : Int) = 0) = true := by rw [hr]; rfl
  have y3 : Int.toNat 1 = 1 := rfl
  have s1 := rrtnew_call c16
  rw [new16] at s1
  refine pcall_body tabOk Try.func6 rfl rfl (by rw [Try.ntmps6]; simp) ?_
  simp only [Try.ntmps6]
  simp only [↓wt, wu, wk0, wk1, wk2, wk3, Nat.reduceAdd, Nat.reduceEqDiff, Nat.reduceLeDiff, Nat.reduceLT, Nat.reduceMul, Int.reduceLE, Int.reduceLT, Int.reduceEq, Int.reduceNe, wk4, laidS, keepS]
  refine freeze_rule 0 [1] (by simp only [↓wt, wu, wk0, wk1, wk2, wk3, Nat.reduceAdd, Nat.reduceEqDiff, Nat.reduceLeDiff, Nat.reduceLT, Nat.reduceMul, Int.reduceLE, Int.reduceLT, Int.reduceEq, Int.reduceNe, wk4, laidS, keepS]; (try (repeat' (first | (exact fun _ => by simp only [pureL_eq, underL_cons, underL_nil, AV.cells, under_l, under_c, under_g, under_e, under_f, underL_B, underL_I, underL_Bs, under_Bs, List.mem_cons, List.not_mem_nil, or_false, forall_eq_or_imp, forall_eq, and_self, and_true, true_and]) | ((with_reducible refine And.intro ?_ ?_)) | (intro _) | omega | (simp only [pureL_eq, underL_cons, underL_nil, AV.cells, under_l, under_c, under_g, under_e, under_f, underL_B, underL_I, underL_Bs, under_Bs, List.mem_cons, List.not_mem_nil, or_false, forall_eq_or_imp, forall_eq, and_self, and_true, true_and])))); done) (by simp only [↓wt, wu, wk0, wk1, wk2, wk3, Nat.reduceAdd, Nat.reduceEqDiff, Nat.reduceLeDiff, Nat.reduceLT, Nat.reduceMul, Int.reduceLE, Int.reduceLT, Int.reduceEq, Int.reduceNe, wk4, laidS, keepS]; (try (repeat' (first | (exact fun _ => by simp only [pureL_eq, underL_cons, underL_nil, AV.cells, under_l, under_c, under_g, under_e, under_f, underL_B, underL_I, underL_Bs, under_Bs, List.mem_cons, List.not_mem_nil, or_false, forall_eq_or_imp, forall_eq, and_self, and_true, true_and]) | ((with_reducible refine And.intro ?_ ?_)) | (intro _) | omega | (simp only [pureL_eq, underL_cons, underL_nil, AV.cells, under_l, under_c, under_g, under_e, under_f, underL_B, underL_I, underL_Bs, under_Bs, List.mem_cons, List.not_mem_nil, or_false, forall_eq_or_imp, forall_eq, and_self, and_true, true_and])))); done) ?_; simp only [↓wt, wu, wk0, wk1, wk2, wk3, Nat.reduceAdd, Nat.reduceEqDiff, Nat.reduceLeDiff, Nat.reduceLT, Nat.reduceMul, Int.reduceLE, Int.reduceLT, Int.reduceEq, Int.reduceNe, wk4, laidS, keepS]
  refine draw_rule4 tabOk mixed [(35, 0)] [0, 3, 3, 3, 4, 1] [0, 0, 0, 0, 1, 0] [[], [0], [], [0, 1, 2], [], [0, 1, 2, 3, 4]] (by kernel_rfl) (by kernel_rfl) ?_
  simp only [↓wt, wu, wk0, wk1, wk2, wk3, Nat.reduceAdd, Nat.reduceEqDiff, Nat.reduceLeDiff, Nat.reduceLT, Nat.reduceMul, Int.reduceLE, Int.reduceLT, Int.reduceEq, Int.reduceNe, wk4, laidS, keepS]
  refine d_pureC (r := BooksV l16) (fun M0 => icall_drop [] s1 ⟨arg_conf' (c := c16), trivial⟩ okR_books ⟨rfl, rfl⟩) ?_
  simp only [↓wt, wu, wk0, wk1, wk2, wk3, Nat.reduceAdd, Nat.reduceEqDiff, Nat.reduceLeDiff, Nat.reduceLT, Nat.reduceMul, Int.reduceLE, Int.reduceLT, Int.reduceEq, Int.reduceNe, wk4, laidS, keepS, BooksV]
  refine d_pureX (fun M0 => by simp only [↓wt, wu, wk0, wk1, wk2, wk3, Nat.reduceAdd, Nat.reduceEqDiff, Nat.reduceLeDiff, Nat.reduceLT, Nat.reduceMul, Int.reduceLE, Int.reduceLT, Int.reduceEq, Int.reduceNe, wk4, laidS, keepS, zx_make]; exact ⟨rfl, .inr (by decide), by decide, by decide, by decide, rfl, rfl⟩) ?_
  simp only [↓wt, wu, wk0, wk1, wk2, wk3, Nat.reduceAdd, Nat.reduceEqDiff, Nat.reduceLeDiff, Nat.reduceLT, Nat.reduceMul, Int.reduceLE, Int.reduceLT, Int.reduceEq, Int.reduceNe, wk4, laidS, keepS]
  refine d_pureX (fun M0 => by simp only [↓wt, wu, wk0, wk1, wk2, wk3, Nat.reduceAdd, Nat.reduceEqDiff, Nat.reduceLeDiff, Nat.reduceLT, Nat.reduceMul, Int.reduceLE, Int.reduceLT, Int.reduceEq, Int.reduceNe, wk4, laidS, keepS, zx_build]; rfl) ?_
  simp only [↓wt, wu, wk0, wk1, wk2, wk3, Nat.reduceAdd, Nat.reduceEqDiff, Nat.reduceLeDiff, Nat.reduceLT, Nat.reduceMul, Int.reduceLE, Int.reduceLT, Int.reduceEq, Int.reduceNe, wk4, laidS, keepS]
  refine d_heavyX (by simp only [↓wt, wu, wk0, wk1, wk2, wk3, Nat.reduceAdd, Nat.reduceEqDiff, Nat.reduceLeDiff, Nat.reduceLT, Nat.reduceMul, Int.reduceLE, Int.reduceLT, Int.reduceEq, Int.reduceNe, wk4, laidS, keepS, Cell]; (repeat (first | refine And.intro (by omega) ?_ | refine And.intro (pureB _) ?_ | refine And.intro (pureI _) ?_ | refine And.intro ⟨pureB _, pureB _⟩ ?_ | refine And.intro ⟨pureB _, pureI _⟩ ?_ | refine And.intro ⟨pureI _, pureB _⟩ ?_ | refine And.intro ⟨pureI _, pureI _⟩ ?_)); exact ⟨rfl, rfl⟩) ?_
  simp only [↓wt, wu, wk0, wk1, wk2, wk3, Nat.reduceAdd, Nat.reduceEqDiff, Nat.reduceLeDiff, Nat.reduceLT, Nat.reduceMul, Int.reduceLE, Int.reduceLT, Int.reduceEq, Int.reduceNe, wk4, laidS, keepS, Cell]
  refine icall_drop [] m1 ⟨arg_mail (m := m16), trivial⟩ (pureB _) ?_
  simp only [↓wt, wu, wk0, wk1, wk2, wk3, Nat.reduceAdd, Nat.reduceEqDiff, Nat.reduceLeDiff, Nat.reduceLT, Nat.reduceMul, Int.reduceLE, Int.reduceLT, Int.reduceEq, Int.reduceNe, wk4, laidS, keepS]
  refine icall_peek [2] m2 ⟨arg_conf' (c := c16), arg_own (by simp) rfl (by simp) (pureB _), trivial⟩ ?_
  simp only [↓wt, wu, wk0, wk1, wk2, wk3, Nat.reduceAdd, Nat.reduceEqDiff, Nat.reduceLeDiff, Nat.reduceLT, Nat.reduceMul, Int.reduceLE, Int.reduceLT, Int.reduceEq, Int.reduceNe, wk4, laidS, keepS, stale, staleA, staleC, Mem.next, MailV, Cell]
  refine room_rule 3 2 b.length 5 1 (b.map encB) rfl rfl (by simp) (by omega) (pureB _) ?_ ?_
  · refine see_after ?_
    refine draw_rule4 tabOk mixed [(35, 0)] [0, 0, 1, 1, 1, 0, 0, 0, 4, 1, 0] [0, 0, 0, 0, 0, 0, 0, 0, 5, 0, 0] [[], [], [], [1, 2], [0, 1, 2, 3], [0, 1, 2, 3, 4], [0, 1, 2, 3, 4, 5], [0, 1, 2, 3, 4, 5], [], [0, 1, 2, 3, 4, 5, 6, 8], [0, 1, 2, 3, 4, 5, 6, 7, 8, 9]] (by kernel_rfl) (by kernel_rfl) ?_
    simp only [↓wt, wu, wk0, wk1, wk2, wk3, Nat.reduceAdd, Nat.reduceEqDiff, Nat.reduceLeDiff, Nat.reduceLT, Nat.reduceMul, Int.reduceLE, Int.reduceLT, Int.reduceEq, Int.reduceNe, wk4, laidS, keepS, Mem.drop, remove]
    refine d4_heavyX (fun β => by simp only [↓wt, wu, wk0, wk1, wk2, wk3, Nat.reduceAdd, Nat.reduceEqDiff, Nat.reduceLeDiff, Nat.reduceLT, Nat.reduceMul, Int.reduceLE, Int.reduceLT, Int.reduceEq, Int.reduceNe, wk4, laidS, keepS]; (repeat (first | refine And.intro (by omega) ?_ | refine And.intro (pureB _) ?_ | refine And.intro (pureI _) ?_ | refine And.intro ⟨pureB _, pureB _⟩ ?_ | refine And.intro ⟨pureB _, pureI _⟩ ?_ | refine And.intro ⟨pureI _, pureB _⟩ ?_ | refine And.intro ⟨pureI _, pureI _⟩ ?_)); exact ⟨rfl, rfl⟩) (fun β => by rfl) ?_
    simp only [↓wt, wu, wk0, wk1, wk2, wk3, Nat.reduceAdd, Nat.reduceEqDiff, Nat.reduceLeDiff, Nat.reduceLT, Nat.reduceMul, Int.reduceLE, Int.reduceLT, Int.reduceEq, Int.reduceNe, wk4, laidS, keepS]
    refine d4_heavyX (fun β => by simp only [↓wt, wu, wk0, wk1, wk2, wk3, Nat.reduceAdd, Nat.reduceEqDiff, Nat.reduceLeDiff, Nat.reduceLT, Nat.reduceMul, Int.reduceLE, Int.reduceLT, Int.reduceEq, Int.reduceNe, wk4, laidS, keepS]; (repeat (first | refine And.intro (by omega) ?_ | refine And.intro (pureB _) ?_ | refine And.intro (pureI _) ?_ | refine And.intro ⟨pureB _, pureB _⟩ ?_ | refine And.intro ⟨pureB _, pureI _⟩ ?_ | refine And.intro ⟨pureI _, pureB _⟩ ?_ | refine And.intro ⟨pureI _, pureI _⟩ ?_)); exact ⟨rfl, rfl⟩) (fun β => by rfl) ?_
    simp only [↓wt, wu, wk0, wk1, wk2, wk3, Nat.reduceAdd, Nat.reduceEqDiff, Nat.reduceLeDiff, Nat.reduceLT, Nat.reduceMul, Int.reduceLE, Int.reduceLT, Int.reduceEq, Int.reduceNe, wk4, laidS, keepS]
    refine d4_heavyC (r := stale 8 (.t [MailV (m00, false).1, .c (.bool (m00, false).2)])) (fun β => icall_peek [7] m3 ⟨arg_conf' (c := c16), arg_own (by simp) rfl (by simp) hp0, trivial⟩ ⟨rfl, rfl⟩) (fun β => by rfl) ?_
    simp only [↓wt, wu, wk0, wk1, wk2, wk3, Nat.reduceAdd, Nat.reduceEqDiff, Nat.reduceLeDiff, Nat.reduceLT, Nat.reduceMul, Int.reduceLE, Int.reduceLT, Int.reduceEq, Int.reduceNe, wk4, laidS, keepS, stale, staleA, staleC, Mem.next, MailV, Cell]
    refine d_heavyX (by simp only [↓wt, wu, wk0, wk1, wk2, wk3, Nat.reduceAdd, Nat.reduceEqDiff, Nat.reduceLeDiff, Nat.reduceLT, Nat.reduceMul, Int.reduceLE, Int.reduceLT, Int.reduceEq, Int.reduceNe, wk4, laidS, keepS, Cell]; (repeat (first | refine And.intro (by omega) ?_ | refine And.intro (pureB _) ?_ | refine And.intro (pureI _) ?_ | refine And.intro ⟨pureB _, pureB _⟩ ?_ | refine And.intro ⟨pureB _, pureI _⟩ ?_ | refine And.intro ⟨pureI _, pureB _⟩ ?_ | refine And.intro ⟨pureI _, pureI _⟩ ?_)); exact ⟨rfl, rfl⟩) ?_
    simp only [↓wt, wu, wk0, wk1, wk2, wk3, Nat.reduceAdd, Nat.reduceEqDiff, Nat.reduceLeDiff, Nat.reduceLT, Nat.reduceMul, Int.reduceLE, Int.reduceLT, Int.reduceEq, Int.reduceNe, wk4, laidS, keepS, Cell]
    refine .full 3 1 (b.map encB) rfl ?_
    refine .done ?_
    simp only [↓wt, wu, wk0, wk1, wk2, wk3, Nat.reduceAdd, Nat.reduceEqDiff, Nat.reduceLeDiff, Nat.reduceLT, Nat.reduceMul, Int.reduceLE, Int.reduceLT, Int.reduceEq, Int.reduceNe, wk4, laidS, keepS, x1, x2]
    repeat (refine And.intro (by omega) ?_)
    simp only [↓wt, wu, wk0, wk1, wk2, wk3, Nat.reduceAdd, Nat.reduceEqDiff, Nat.reduceLeDiff, Nat.reduceLT, Nat.reduceMul, Int.reduceLE, Int.reduceLT, Int.reduceEq, Int.reduceNe, wk4, laidS, keepS, y1]
    repeat (refine And.intro (by omega) ?_)
    simp only [↓wt, wu, wk0, wk1, wk2, wk3, Nat.reduceAdd, Nat.reduceEqDiff, Nat.reduceLeDiff, Nat.reduceLT, Nat.reduceMul, Int.reduceLE, Int.reduceLT, Int.reduceEq, Int.reduceNe, wk4, laidS, keepS, y3, y2, x2, Try.results6]
    exact exp_c
  · refine see_after ?_
    refine draw_rule4 tabOk mixed [(35, 0)] [0, 0, 1, 1, 1, 0, 0, 0, 4, 1, 0] [0, 0, 0, 0, 0, 0, 0, 0, 5, 0, 0] [[], [], [], [1, 2], [0, 1, 2, 3], [0, 1, 2, 3, 4], [0, 1, 2, 3, 4, 5], [0, 1, 2, 3, 4, 5], [], [0, 1, 2, 3, 4, 5, 6, 8], [0, 1, 2, 3, 4, 5, 6, 7, 8, 9]] (by kernel_rfl) (by kernel_rfl) ?_
    simp only [↓wt, wu, wk0, wk1, wk2, wk3, Nat.reduceAdd, Nat.reduceEqDiff, Nat.reduceLeDiff, Nat.reduceLT, Nat.reduceMul, Int.reduceLE, Int.reduceLT, Int.reduceEq, Int.reduceNe, wk4, laidS, keepS]
    refine d4_heavyX (fun β => by simp only [↓wt, wu, wk0, wk1, wk2, wk3, Nat.reduceAdd, Nat.reduceEqDiff, Nat.reduceLeDiff, Nat.reduceLT, Nat.reduceMul, Int.reduceLE, Int.reduceLT, Int.reduceEq, Int.reduceNe, wk4, laidS, keepS]; (repeat (first | refine And.intro (by omega) ?_ | refine And.intro (pureB _) ?_ | refine And.intro (pureI _) ?_ | refine And.intro ⟨pureB _, pureB _⟩ ?_ | refine And.intro ⟨pureB _, pureI _⟩ ?_ | refine And.intro ⟨pureI _, pureB _⟩ ?_ | refine And.intro ⟨pureI _, pureI _⟩ ?_)); exact ⟨rfl, rfl⟩) (fun β => by rfl) ?_
    simp only [↓wt, wu, wk0, wk1, wk2, wk3, Nat.reduceAdd, Nat.reduceEqDiff, Nat.reduceLeDiff, Nat.reduceLT, Nat.reduceMul, Int.reduceLE, Int.reduceLT, Int.reduceEq, Int.reduceNe, wk4, laidS, keepS]
    refine d4_heavyX (fun β => by simp only [↓wt, wu, wk0, wk1, wk2, wk3, Nat.reduceAdd, Nat.reduceEqDiff, Nat.reduceLeDiff, Nat.reduceLT, Nat.reduceMul, Int.reduceLE, Int.reduceLT, Int.reduceEq, Int.reduceNe, wk4, laidS, keepS]; (repeat (first | refine And.intro (by omega) ?_ | refine And.intro (pureB _) ?_ | refine And.intro (pureI _) ?_ | refine And.intro ⟨pureB _, pureB _⟩ ?_ | refine And.intro ⟨pureB _, pureI _⟩ ?_ | refine And.intro ⟨pureI _, pureB _⟩ ?_ | refine And.intro ⟨pureI _, pureI _⟩ ?_)); exact ⟨rfl, rfl⟩) (fun β => by rfl) ?_
    simp only [↓wt, wu, wk0, wk1, wk2, wk3, Nat.reduceAdd, Nat.reduceEqDiff, Nat.reduceLeDiff, Nat.reduceLT, Nat.reduceMul, Int.reduceLE, Int.reduceLT, Int.reduceEq, Int.reduceNe, wk4, laidS, keepS]
    refine d4_heavyC (r := stale 7 (.t [MailV (m00, false).1, .c (.bool (m00, false).2)])) (fun β => icall_peek [2] m3 ⟨arg_conf' (c := c16), arg_own (by simp) rfl (by simp) hp0, trivial⟩ ⟨rfl, rfl⟩) (fun β => by rfl) ?_
    simp only [↓wt, wu, wk0, wk1, wk2, wk3, Nat.reduceAdd, Nat.reduceEqDiff, Nat.reduceLeDiff, Nat.reduceLT, Nat.reduceMul, Int.reduceLE, Int.reduceLT, Int.reduceEq, Int.reduceNe, wk4, laidS, keepS, stale, staleA, staleC, Mem.next, MailV, Cell]
    refine d_heavyX (by simp only [↓wt, wu, wk0, wk1, wk2, wk3, Nat.reduceAdd, Nat.reduceEqDiff, Nat.reduceLeDiff, Nat.reduceLT, Nat.reduceMul, Int.reduceLE, Int.reduceLT, Int.reduceEq, Int.reduceNe, wk4, laidS, keepS, Cell]; (repeat (first | refine And.intro (by omega) ?_ | refine And.intro (pureB _) ?_ | refine And.intro (pureI _) ?_ | refine And.intro ⟨pureB _, pureB _⟩ ?_ | refine And.intro ⟨pureB _, pureI _⟩ ?_ | refine And.intro ⟨pureI _, pureB _⟩ ?_ | refine And.intro ⟨pureI _, pureI _⟩ ?_)); exact ⟨rfl, rfl⟩) ?_
    simp only [↓wt, wu, wk0, wk1, wk2, wk3, Nat.reduceAdd, Nat.reduceEqDiff, Nat.reduceLeDiff, Nat.reduceLT, Nat.reduceMul, Int.reduceLE, Int.reduceLT, Int.reduceEq, Int.reduceNe, wk4, laidS, keepS, Cell]
    refine .window 3 2 b.length (b.length + 1) 5 1 (b.map encB ++ [.c (.int .u8 0)]) rfl rfl (by simp) hp0 ?_
    refine .done ?_
    rw [hw0]
    simp only [↓wt, wu, wk0, wk1, wk2, wk3, Nat.reduceAdd, Nat.reduceEqDiff, Nat.reduceLeDiff, Nat.reduceLT, Nat.reduceMul, Int.reduceLE, Int.reduceLT, Int.reduceEq, Int.reduceNe, wk4, laidS, keepS, x1, x2]
    repeat (refine And.intro (by omega) ?_)
    simp only [↓wt, wu, wk0, wk1, wk2, wk3, Nat.reduceAdd, Nat.reduceEqDiff, Nat.reduceLeDiff, Nat.reduceLT, Nat.reduceMul, Int.reduceLE, Int.reduceLT, Int.reduceEq, Int.reduceNe, wk4, laidS, keepS, y1]
    repeat (refine And.intro (by omega) ?_)
    simp only [↓wt, wu, wk0, wk1, wk2, wk3, Nat.reduceAdd, Nat.reduceEqDiff, Nat.reduceLeDiff, Nat.reduceLT, Nat.reduceMul, Int.reduceLE, Int.reduceLT, Int.reduceEq, Int.reduceNe, wk4, laidS, keepS, y3, y2, x2, Try.results6]
    exact exp_c
end Go.Ab
