/- Books: the document's Take. -/
import Derived.Test.YtkikaagieknpdaaGreatBk27
set_option linter.unusedSimpArgs false
set_option linter.unusedVariables false
set_option linter.constructorNameAsVariable false
set_option maxRecDepth 100000
open Nat (reduceAdd reduceMul reduceEqDiff reduceLeDiff)
open Int (reduceLE reduceLT reduceEq reduceNe)
namespace Go.Ab
open Go Go.Proofs Go.RowKit
theorem exp_kN {M : Mem} {c : Conf} {w : Int} {s : List UInt8} (h : ∀ k, MayK c w k → encBk k = s → False) : Exp M (.t [zeroK, .c (.bool false)]) (.t [BookV (takeBk c w s).1, .c (.bool (takeBk c w s).2)]) := by
 have : takeBk c w s = (k00, false) := (takeBk_is c w s).uniq (.inr ⟨rfl, fun k h1 h2 => h k h1 h2⟩)
 rw [this]; exact exp_tA (xT_cons xA_k00 (xT_cons xA_c xT_nil))
theorem exp_kY {M : Mem} {c : Conf} {w : Int} {s : List UInt8} {K : BookD} {x : AV} (hm : MayK c w K) (hs : s = encBk K) (h : ∃ f, ExpA M x (BookV K) [] f) : Exp M (.t [x, .c (.bool true)]) (.t [BookV (takeBk c w s).1, .c (.bool (takeBk c w s).2)]) := by
 have : takeBk c w s = (K, true) := (takeBk_is c w s).uniq (.inl ⟨rfl, hm, hs⟩)
 rw [this]; exact exp_tA (xT_cons h (xT_cons xA_c xT_nil))
set_option maxHeartbeats 32000000 in
theorem rbktake_call (c : Conf) (w : Int) (s : List UInt8) (hl : s.length ≤ 1000000000) : PCall Tryz.prog 8 [ConfA c, .c (.int .i64 w), Bs s] (.t [BookV (takeBk c w s).1, .c (.bool (takeBk c w s).2)]) := by
 have m1 := mrsome_call s 1 hl (by decide)
 refine pcall_body tabOk Tryz.func8 rfl rfl (by rw [Tryz.ntmps8]; simp) ?_
 simp only [Tryz.ntmps8, ConfA, Bs]
 rcases some_cases 1 s with h1 | ⟨xs, r1, h1⟩
 · rw [h1] at m1
   simp only [↓wt, wz, reduceAdd, reduceMul, reduceEqDiff, reduceLeDiff, Nat.reduceLT, reduceLE, reduceLT, reduceEq, reduceNe]
   refine icall_drop [] m1 ⟨arg_l (pureB _), arg_c, trivial⟩ okR_some ?_
   simp only [↓wt, wz, reduceAdd, reduceMul, reduceEqDiff, reduceLeDiff, Nat.reduceLT, reduceLE, reduceLT, reduceEq, reduceNe, SomeV, Bs, Cell, Tryz.results8]
   exact exp_kN fun k hk he => by have := t1 hk; rw [he, h1] at this; simp at this
 rw [h1] at m1
 obtain ⟨v, rfl, hv1, hv2, hb1⟩ := some_1 h1
 have H1 : ∀ k, MayK c w k → encBk k = s → k.ck = v ∧ tl1 k = r1 := fun k hk he => by
  have := t1 hk
  rw [he, h1] at this
  simp only [Prod.mk.injEq, List.cons.injEq, and_true] at this
  exact ⟨this.1.symm, this.2.symm⟩
 have hr1 : r1.length ≤ s.length := by rw [hb1]; simp
 simp only [↓wt, wz, reduceAdd, reduceMul, reduceEqDiff, reduceLeDiff, Nat.reduceLT, reduceLE, reduceLT, reduceEq, reduceNe]
 refine icall_drop [] m1 ⟨arg_l (pureB _), arg_c, trivial⟩ okR_some ?_
 simp only [↓wt, wz, reduceAdd, reduceMul, reduceEqDiff, reduceLeDiff, Nat.reduceLT, reduceLE, reduceLT, reduceEq, reduceNe, SomeV, Bs]
 refine icall_drop [] (rrtmay_call c) ⟨arg_conf', trivial⟩ (.c _) ?_
 cases hc : decide (MayC c)
 · simp only [↓wt, wz, reduceAdd, reduceMul, reduceEqDiff, reduceLeDiff, Nat.reduceLT, reduceLE, reduceLT, reduceEq, reduceNe, hc, Cell, Tryz.results8]
   exact exp_kN fun k hk he => of_decide_eq_false hc (may_len hk).1
 have hm := of_decide_eq_true hc
 have hm' := hm
 unfold MayC at hm'
 have m2 := rptake_call c r1 (by omega)
 rw [takeB_same (by decide) (Nat.le_refl _)] at m2
 simp only [↓wt, wz, reduceAdd, reduceMul, reduceEqDiff, reduceLeDiff, Nat.reduceLT, reduceLE, reduceLT, reduceEq, reduceNe, hc]
 refine icall_drop [] m2 ⟨arg_conf', arg_l (pureB _), trivial⟩ okR_manyR ?_
 by_cases ho : (takeB M63 c r1).2.2 = true
 rotate_left
 · have ho2 : (takeB M63 c r1).2.2 = false := by simpa using ho
   simp only [↓wt, wz, reduceAdd, reduceMul, reduceEqDiff, reduceLeDiff, Nat.reduceLT, reduceLE, reduceLT, reduceEq, reduceNe, TakeV, BooksV, Bs, ho2, Cell, Tryz.results8]
   exact exp_kN fun k hk he => by have := t2 hk; rw [(H1 k hk he).2] at this; rw [this] at ho2; cases ho2
 obtain ⟨hrb, hn, hb2⟩ := takeB_n ho
 have H2 : ∀ k, MayK c w k → encBk k = s → (k.ck = v ∧ k.r = (takeB M63 c r1).1) ∧ tl2 k = (takeB M63 c r1).2.1 := fun k hk he => by
  have := t2 hk
  rw [(H1 k hk he).2] at this
  rw [this]
  exact ⟨⟨(H1 k hk he).1, rfl⟩, rfl⟩
 generalize takeB M63 c r1 = T at *
 obtain ⟨p, r2, o⟩ := T
 dsimp only at *
 subst ho
 have hr2 : r2.length ≤ s.length := by
  have := congrArg List.length hb2
  rw [List.length_append] at this; omega
 have m3 := rcounted_call r2 (by omega) c.q (by omega) 2 (by decide)
 simp only [↓wt, wz, reduceAdd, reduceMul, reduceEqDiff, reduceLeDiff, Nat.reduceLT, reduceLE, reduceLT, reduceEq, reduceNe, TakeV, BooksV, Bs, elem_I]
 rcases cnt_cases (b := r2) (most := c.q) (k := 2) with h3 | ⟨n1, l1, r3, h3, hn1, hl1, hb3⟩
 · rw [h3] at m3
   refine icall_drop [] m3 ⟨arg_l (pureB _), arg_c, arg_c, trivial⟩ okR_some ?_
   simp only [↓wt, wz, reduceAdd, reduceMul, reduceEqDiff, reduceLeDiff, Nat.reduceLT, reduceLE, reduceLT, reduceEq, reduceNe, SomeV, Bs, Cell, Tryz.results8]
   exact exp_kN fun k hk he => by
    have := cnt_yes (t3 hk) (may_len hk).2.2.1 (t4 hk)
    rw [(H2 k hk he).2, h3] at this; simp at this
 rw [h3] at m3
 have H3 : ∀ k, MayK c w k → encBk k = s → (k.ck = v ∧ k.r = p ∧ lineL k.l = l1 ∧ k.l.length = n1) ∧ tl4 k = r3 := fun k hk he => by
  have := cnt_yes (t3 hk) (may_len hk).2.2.1 (t4 hk)
  rw [(H2 k hk he).2, h3] at this
  simp only [Prod.mk.injEq, and_true] at this
  obtain ⟨g1, g2⟩ := H2 k hk he
  have e := lineL_len k.l
  rw [← this.1, hl1] at e
  exact ⟨⟨g1.1, g1.2, this.1.symm, by omega⟩, this.2.symm⟩
 have hr3 : r3.length ≤ s.length := by
  have := congrArg List.length hb3
  simp only [List.length_append] at this; omega
 have hn1' : n1 ≤ 8 := by omega
 refine icall_drop [] m3 ⟨arg_l (pureB _), arg_c, arg_c, trivial⟩ okR_some ?_
 simp only [↓wt, wz, reduceAdd, reduceMul, reduceEqDiff, reduceLeDiff, Nat.reduceLT, reduceLE, reduceLT, reduceEq, reduceNe, SomeV, Bs]
 refine adopt_cell 3 37 12 _ 2 68 3 rfl rfl ?_
 refine loop_ruleG tabOk [1, 3, 6, 8, 10, 13, 14] (fun i : Nat => [(15, .c (.int .i64 ((2 * i : Nat) : Int)))]) (fun i => ⟨[(0, ⟨23, 6, [ConfA c]⟩), (1, ⟨37, 12, [zeroK]⟩), (2, ⟨37, 12, [zeroK]⟩),
  (3, ⟨37, 12, [.g [.c (.int .i64 v), .l 3 (p.map RowV), .s 4 0 i, .c (.slice none 0 0), .c (.int .i64 0), .c (.slice none 0 0), .c (.int .i64 0), .c (.int .i64 0), .c (.slice none 0 0), .c (.slice none 0 0), .c (.slice none 0 0), .c (.bool false)]]⟩), (4, ⟨68, 3, (rqOf w l1 i).map ReqA⟩)], 5⟩)
  (fun i => i ≤ n1) (fun i => n1 - i) 0 (by omega) (fun _ => Nat.le_refl _) ?_ ?_
 · simp only [↓wt, wz, wkf, reduceAdd, reduceMul, reduceEqDiff, reduceLeDiff, Nat.reduceLT, reduceLE, reduceLT, reduceEq, reduceNe, ConfA, zeroK, underL_R, underL_Q, underL_U, underL_N, underL_O, underL_I]
   rfl
 intro i hi
 have w2 : IntKind.i64.wrap (((2 * i : Nat) : Int) + 2) = ((2 * (i + 1) : Nat) : Int) := by rw [wrap_i64 (by omega) (by omega)]; omega
 have w1 : IntKind.i64.wrap (((2 * i : Nat) : Int) + 1) = ((2 * i + 1 : Nat) : Int) := by rw [wrap_i64 (by omega) (by omega)]; omega
 have hq := rqOf_succ w l1 i
 simp only [↓wt, wz, reduceAdd, reduceMul, reduceEqDiff, reduceLeDiff, Nat.reduceLT, reduceLE, reduceLT, reduceEq, reduceNe, ConfA, zeroK]
 cases f0 : decide (((2 * i : Nat) : Int) < (l1.length : Int))
 rotate_left
 · have hil : i < n1 := by have := of_decide_eq_true f0; omega
   simp only [↓wt, wz, reduceAdd, reduceMul, reduceEqDiff, reduceLeDiff, Nat.reduceLT, reduceLE, reduceLT, reduceEq, reduceNe, f0]
   refine draw_rule tabOk mixed [0, 2, 0, 0, 0, 0, 0, 3, 0, 0, 0, 0, 0, 3, 0, 1, 0, 1] [[], [0], [], [], [2, 3], [2, 3, 4], [], [2, 3, 4, 5, 6], [], [], [9], [8, 9, 10], [8, 9, 10, 11], [2, 3, 4, 5, 6, 7, 8, 9, 10, 11, 12], [2, 3, 4, 5, 6, 7, 8, 9, 10, 11, 12, 13], [0, 1, 2, 3, 4, 5, 6, 7, 8, 9, 10, 11, 12, 13, 14], [0, 1, 2, 3, 4, 5, 6, 7, 8, 9, 10, 11, 12, 13, 14, 15], [0, 1, 2, 3, 4, 5, 6, 7, 8, 9, 10, 11, 12, 13, 14, 15, 16]] (by kernel_rfl) ?_
   simp only [↓wt, wz, reduceAdd, reduceMul, reduceEqDiff, reduceLeDiff, Nat.reduceLT, reduceLE, reduceLT, reduceEq, reduceNe, elem_I, w1, rqOf_len]
   repeat (refine And.intro (by omega) ?_)
   refine d_pureX (fun M0 => by simp only [↓wt, wz, reduceAdd, reduceMul, reduceEqDiff, reduceLeDiff, Nat.reduceLT, reduceLE, reduceLT, reduceEq, reduceNe, zx_build, encI_eq]; rfl) ?_
   simp only [↓wt, wz, reduceAdd, reduceMul, reduceEqDiff, reduceLeDiff, Nat.reduceLT, reduceLE, reduceLT, reduceEq, reduceNe, elem_I, w1, encI_eq]
   repeat (refine And.intro (by omega) ?_)
   refine d_pureX (fun M0 => by simp only [↓wt, wz, reduceAdd, reduceMul, reduceEqDiff, reduceLeDiff, Nat.reduceLT, reduceLE, reduceLT, reduceEq, reduceNe, zx_build, encI_eq]; rfl) ?_
   simp only [↓wt, wz, reduceAdd, reduceMul, reduceEqDiff, reduceLeDiff, Nat.reduceLT, reduceLE, reduceLT, reduceEq, reduceNe, encI_eq]
   refine d_heavyX (by simp only [↓wt, wz, reduceAdd, reduceMul, reduceEqDiff, reduceLeDiff, Nat.reduceLT, reduceLE, reduceLT, reduceEq, reduceNe, rqOf_len, Cell]; (repeat (first | refine And.intro (by omega) ?_ | refine And.intro (pureB _) ?_ | refine And.intro (pureI _) ?_ | refine And.intro ⟨pureB _, pureB _⟩ ?_ | refine And.intro ⟨pureB _, pureI _⟩ ?_ | refine And.intro ⟨pureI _, pureB _⟩ ?_ | refine And.intro ⟨pureI _, pureI _⟩ ?_)); exact ⟨rfl, rfl⟩) ?_
   simp only [↓wt, wz, reduceAdd, reduceMul, reduceEqDiff, reduceLeDiff, Nat.reduceLT, reduceLE, reduceLT, reduceEq, reduceNe]
   refine d_heavyX (by simp only [↓wt, wz, reduceAdd, reduceMul, reduceEqDiff, reduceLeDiff, Nat.reduceLT, reduceLE, reduceLT, reduceEq, reduceNe, Cell]; (repeat (first | refine And.intro (by omega) ?_ | refine And.intro (pureB _) ?_ | refine And.intro (pureI _) ?_ | refine And.intro ⟨pureB _, pureB _⟩ ?_ | refine And.intro ⟨pureB _, pureI _⟩ ?_ | refine And.intro ⟨pureI _, pureB _⟩ ?_ | refine And.intro ⟨pureI _, pureI _⟩ ?_)); exact ⟨rfl, rfl⟩) ?_
   simp only [↓wt, wz, reduceAdd, reduceMul, reduceEqDiff, reduceLeDiff, Nat.reduceLT, reduceLE, reduceLT, reduceEq, reduceNe, w2]
   refine ⟨i + 1, by omega, by omega, ?_⟩
   simp only [↓wt, wz, wkf, reduceAdd, reduceMul, reduceEqDiff, reduceLeDiff, Nat.reduceLT, reduceLE, reduceLT, reduceEq, reduceNe, w2, hq, ConfA, zeroK, underL_R, underL_Q, underL_U, underL_N, underL_O, underL_I, List.map_append, ReqA_eq]
   have hul := underL_Q (k := 5) (l := rqOf w l1 i ++ [⟨l1.getD (2 * i) 0, w, l1.getD (2 * i + 1) 0⟩])
   rw [List.map_append] at hul
   exact hul.mpr trivial
 have hin : i = n1 := by have := of_decide_eq_false f0; omega
 subst hin
 have w3 : IntKind.i64.wrap (c.q + 1) = c.q + 1 := wrap_i64 (by omega) (by omega)
 have m4 := rcounted_call r3 (by omega) (c.q + 1) (by omega) 2 (by decide)
 simp only [↓wt, wz, reduceAdd, reduceMul, reduceEqDiff, reduceLeDiff, Nat.reduceLT, reduceLE, reduceLT, reduceEq, reduceNe, f0, w3]
 rcases cnt_cases (b := r3) (most := c.q + 1) (k := 2) with h4 | ⟨n2, l2, r4, h4, hn2, hl2, hb4⟩
 · rw [h4] at m4
   refine icall_drop [] m4 ⟨arg_l (pureB _), arg_c, arg_c, trivial⟩ okR_some ?_
   simp only [↓wt, wz, reduceAdd, reduceMul, reduceEqDiff, reduceLeDiff, Nat.reduceLT, reduceLE, reduceLT, reduceEq, reduceNe, SomeV, Bs, Cell, Tryz.results8]
   exact exp_kN fun k hk he => by
    have := cnt_yes (t5 hk) (may_len hk).2.2.2.2.1 (t6 hk)
    rw [(H3 k hk he).2, h4] at this; simp at this
 rw [h4] at m4
 have H4 : ∀ k, MayK c w k → encBk k = s → (k.ck = v ∧ k.r = p ∧ lineL k.l = l1 ∧ k.l.length = i ∧ outsL k.o = l2 ∧ k.o.length = n2) ∧ tl6 k = r4 := fun k hk he => by
  have := cnt_yes (t5 hk) (may_len hk).2.2.2.2.1 (t6 hk)
  rw [(H3 k hk he).2, h4] at this
  simp only [Prod.mk.injEq, and_true] at this
  obtain ⟨g1, g2, g3, g4⟩ := (H3 k hk he).1
  have e := outsL_len k.o
  rw [← this.1, hl2] at e
  exact ⟨⟨g1, g2, g3, g4, this.1.symm, by omega⟩, this.2.symm⟩
 have hr4 : r4.length ≤ s.length := by
  have := congrArg List.length hb4
  simp only [List.length_append] at this; omega
 have hn2' : n2 ≤ 9 := by omega
 refine icall_drop [] m4 ⟨arg_l (pureB _), arg_c, arg_c, trivial⟩ okR_some ?_
 simp only [↓wt, wz, reduceAdd, reduceMul, reduceEqDiff, reduceLeDiff, Nat.reduceLT, reduceLE, reduceLT, reduceEq, reduceNe, SomeV, Bs]
 refine freeze_rule 4 [1, 3, 6, 8, 10, 13, 14, 16] (by simp only [↓wt, wz, reduceAdd, reduceMul, reduceEqDiff, reduceLeDiff, Nat.reduceLT, reduceLE, reduceLT, reduceEq, reduceNe, underL_Q, rqOf_len]; (try (repeat' (first | (exact fun _ => by simp only [pureL_eq, underL_cons, underL_nil, AV.cells, under_l, under_c, under_g, under_e, under_f, underL_B, underL_I, underL_Bs, under_Bs, List.mem_cons, List.not_mem_nil, or_false, forall_eq_or_imp, forall_eq, and_self, and_true, true_and, underL_Q, rqOf_len]) | ((with_reducible refine And.intro ?_ ?_)) | (intro _) | omega | (simp only [pureL_eq, underL_cons, underL_nil, AV.cells, under_l, under_c, under_g, under_e, under_f, underL_B, underL_I, underL_Bs, under_Bs, List.mem_cons, List.not_mem_nil, or_false, forall_eq_or_imp, forall_eq, and_self, and_true, true_and, underL_Q, rqOf_len])))); done) (by simp only [↓wt, wz, reduceAdd, reduceMul, reduceEqDiff, reduceLeDiff, Nat.reduceLT, reduceLE, reduceLT, reduceEq, reduceNe, underL_Q, rqOf_len]; (try (repeat' (first | (exact fun _ => by simp only [pureL_eq, underL_cons, underL_nil, AV.cells, under_l, under_c, under_g, under_e, under_f, underL_B, underL_I, underL_Bs, under_Bs, List.mem_cons, List.not_mem_nil, or_false, forall_eq_or_imp, forall_eq, and_self, and_true, true_and, underL_Q, rqOf_len]) | ((with_reducible refine And.intro ?_ ?_)) | (intro _) | omega | (simp only [pureL_eq, underL_cons, underL_nil, AV.cells, under_l, under_c, under_g, under_e, under_f, underL_B, underL_I, underL_Bs, under_Bs, List.mem_cons, List.not_mem_nil, or_false, forall_eq_or_imp, forall_eq, and_self, and_true, true_and, underL_Q, rqOf_len])))); done) ?_; simp only [↓wt, wz, reduceAdd, reduceMul, reduceEqDiff, reduceLeDiff, Nat.reduceLT, reduceLE, reduceLT, reduceEq, reduceNe, underL_Q, rqOf_len]
 refine adopt_cell 3 37 12 _ 3 70 3 rfl rfl ?_
 refine loop_ruleG tabOk [1, 3, 6, 8, 10, 13, 14] (fun j : Nat => [(16, .c (.int .i64 ((2 * j : Nat) : Int)))]) (fun j => ⟨[(0, ⟨23, 6, [ConfA c]⟩), (1, ⟨37, 12, [zeroK]⟩), (2, ⟨37, 12, [zeroK]⟩),
  (3, ⟨37, 12, [.g [.c (.int .i64 v), .l 3 (p.map RowV), .l 3 ((rqOf w l1 i).map ReqA), .s 5 0 j, .c (.int .i64 0), .c (.slice none 0 0), .c (.int .i64 0), .c (.int .i64 0), .c (.slice none 0 0), .c (.slice none 0 0), .c (.slice none 0 0), .c (.bool false)]]⟩), (5, ⟨70, 3, (ocOf w l2 j).map OutA⟩)], 6⟩)
  (fun j => j ≤ n2) (fun j => n2 - j) 0 (by omega) (fun _ => Nat.le_refl _) ?_ ?_
 · simp only [↓wt, wz, wkf, reduceAdd, reduceMul, reduceEqDiff, reduceLeDiff, Nat.reduceLT, reduceLE, reduceLT, reduceEq, reduceNe, ConfA, zeroK, underL_R, underL_Q, underL_U, underL_N, underL_O, underL_I]
   rfl
 intro j hj
 have w4 : IntKind.i64.wrap (((2 * j : Nat) : Int) + 2) = ((2 * (j + 1) : Nat) : Int) := by rw [wrap_i64 (by omega) (by omega)]; omega
 have w5 : IntKind.i64.wrap (((2 * j : Nat) : Int) + 1) = ((2 * j + 1 : Nat) : Int) := by rw [wrap_i64 (by omega) (by omega)]; omega
 have hq2 := ocOf_succ w l2 j
 simp only [↓wt, wz, reduceAdd, reduceMul, reduceEqDiff, reduceLeDiff, Nat.reduceLT, reduceLE, reduceLT, reduceEq, reduceNe, ConfA, zeroK]
 cases f1 : decide (((2 * j : Nat) : Int) < (l2.length : Int))
 rotate_left
 · have hjl : j < n2 := by have := of_decide_eq_true f1; omega
   cases f2 : decide (l2.getD (2 * j + 1) 0 > 99)
   rotate_left
   · simp only [↓wt, wz, reduceAdd, reduceMul, reduceEqDiff, reduceLeDiff, Nat.reduceLT, reduceLE, reduceLT, reduceEq, reduceNe, f1, f2, w5, elem_I]
     repeat (refine And.intro (by omega) ?_)
     simp only [↓wt, wz, reduceAdd, reduceMul, reduceEqDiff, reduceLeDiff, Nat.reduceLT, reduceLE, reduceLT, reduceEq, reduceNe, Cell, Tryz.results8]
     refine exp_kN fun k hk he => ?_
     obtain ⟨⟨_, _, _, _, g5, g6⟩, _⟩ := H4 k hk he
     have e := outs_code (l := k.o) (i := j) (by omega)
     rw [g5] at e
     have := may_outs hk (k.o.getD j default) (by rw [List.getD_eq_getElem?_getD, List.getElem?_eq_getElem (by omega)]; exact List.getElem_mem _)
     have := of_decide_eq_true f2
     omega
   simp only [↓wt, wz, reduceAdd, reduceMul, reduceEqDiff, reduceLeDiff, Nat.reduceLT, reduceLE, reduceLT, reduceEq, reduceNe, f1, f2, w5, elem_I]
   repeat (refine And.intro (by omega) ?_)
   refine draw_rule tabOk mixed [0, 2, 0, 0, 0, 0, 0, 3, 0, 0, 0, 0, 0, 3, 0, 1, 0, 1] [[], [0], [], [], [2, 3], [2, 3, 4], [], [2, 3, 4, 5, 6], [], [], [9], [8, 9, 10], [8, 9, 10, 11], [2, 3, 4, 5, 6, 7, 8, 9, 10, 11, 12], [2, 3, 4, 5, 6, 7, 8, 9, 10, 11, 12, 13], [0, 1, 2, 3, 4, 5, 6, 7, 8, 9, 10, 11, 12, 13, 14], [0, 1, 2, 3, 4, 5, 6, 7, 8, 9, 10, 11, 12, 13, 14, 15], [0, 1, 2, 3, 4, 5, 6, 7, 8, 9, 10, 11, 12, 13, 14, 15, 16]] (by kernel_rfl) ?_
   simp only [↓wt, wz, reduceAdd, reduceMul, reduceEqDiff, reduceLeDiff, Nat.reduceLT, reduceLE, reduceLT, reduceEq, reduceNe, elem_I, w5, ocOf_len]
   repeat (refine And.intro (by omega) ?_)
   refine d_pureX (fun M0 => by simp only [↓wt, wz, reduceAdd, reduceMul, reduceEqDiff, reduceLeDiff, Nat.reduceLT, reduceLE, reduceLT, reduceEq, reduceNe, zx_build, encI_eq]; rfl) ?_
   simp only [↓wt, wz, reduceAdd, reduceMul, reduceEqDiff, reduceLeDiff, Nat.reduceLT, reduceLE, reduceLT, reduceEq, reduceNe, elem_I, w5, encI_eq]
   repeat (refine And.intro (by omega) ?_)
   refine d_pureX (fun M0 => by simp only [↓wt, wz, reduceAdd, reduceMul, reduceEqDiff, reduceLeDiff, Nat.reduceLT, reduceLE, reduceLT, reduceEq, reduceNe, zx_build, encI_eq]; rfl) ?_
   simp only [↓wt, wz, reduceAdd, reduceMul, reduceEqDiff, reduceLeDiff, Nat.reduceLT, reduceLE, reduceLT, reduceEq, reduceNe, encI_eq]
   refine d_heavyX (by simp only [↓wt, wz, reduceAdd, reduceMul, reduceEqDiff, reduceLeDiff, Nat.reduceLT, reduceLE, reduceLT, reduceEq, reduceNe, ocOf_len, Cell]; (repeat (first | refine And.intro (by omega) ?_ | refine And.intro (pureB _) ?_ | refine And.intro (pureI _) ?_ | refine And.intro ⟨pureB _, pureB _⟩ ?_ | refine And.intro ⟨pureB _, pureI _⟩ ?_ | refine And.intro ⟨pureI _, pureB _⟩ ?_ | refine And.intro ⟨pureI _, pureI _⟩ ?_)); exact ⟨rfl, rfl⟩) ?_
   simp only [↓wt, wz, reduceAdd, reduceMul, reduceEqDiff, reduceLeDiff, Nat.reduceLT, reduceLE, reduceLT, reduceEq, reduceNe]
   refine d_heavyX (by simp only [↓wt, wz, reduceAdd, reduceMul, reduceEqDiff, reduceLeDiff, Nat.reduceLT, reduceLE, reduceLT, reduceEq, reduceNe, Cell]; (repeat (first | refine And.intro (by omega) ?_ | refine And.intro (pureB _) ?_ | refine And.intro (pureI _) ?_ | refine And.intro ⟨pureB _, pureB _⟩ ?_ | refine And.intro ⟨pureB _, pureI _⟩ ?_ | refine And.intro ⟨pureI _, pureB _⟩ ?_ | refine And.intro ⟨pureI _, pureI _⟩ ?_)); exact ⟨rfl, rfl⟩) ?_
   simp only [↓wt, wz, reduceAdd, reduceMul, reduceEqDiff, reduceLeDiff, Nat.reduceLT, reduceLE, reduceLT, reduceEq, reduceNe, w4]
   refine ⟨j + 1, by omega, by omega, ?_⟩
   simp only [↓wt, wz, wkf, reduceAdd, reduceMul, reduceEqDiff, reduceLeDiff, Nat.reduceLT, reduceLE, reduceLT, reduceEq, reduceNe, w4, hq2, ConfA, zeroK, underL_R, underL_Q, underL_U, underL_N, underL_O, underL_I, List.map_append, OutA_eq]
   have hul := underL_U (k := 6) (l := ocOf w l2 j ++ [⟨l2.getD (2 * j) 0, w, l2.getD (2 * j + 1) 0⟩])
   rw [List.map_append] at hul
   exact hul.mpr trivial
 have hjn : j = n2 := by have := of_decide_eq_false f1; omega
 subst hjn
 obtain ⟨n, hcn⟩ : ∃ n : Nat, c.n = n := ⟨c.n.toNat, by omega⟩
 have hn16 : 1 ≤ n ∧ n ≤ 16 := by omega
 have hnt : c.n.toNat = n := by omega
 have x1 : IntKind.i64.wrap (7 * c.n) = ((7 * n : Nat) : Int) := by rw [hcn, wrap_i64 (by omega) (by omega)]; omega
 have x2 : IntKind.i64.wrap (1 + ((7 * n : Nat) : Int)) = ((7 * n + 1 : Nat) : Int) := by rw [wrap_i64 (by omega) (by omega)]; omega
 have x3 : IntKind.i64.wrap (((7 * n + 1 : Nat) : Int) + 2) = ((1 + 7 * n + 2 : Nat) : Int) := by rw [wrap_i64 (by omega) (by omega)]; omega
 have x4 : IntKind.i64.wrap (2 + ((7 * n : Nat) : Int)) = ((7 * n + 2 : Nat) : Int) := by rw [wrap_i64 (by omega) (by omega)]; omega
 have m5 := mrsome_call r4 (1 + 7 * n + 2) (by omega) (by omega)
 simp only [↓wt, wz, reduceAdd, reduceMul, reduceEqDiff, reduceLeDiff, Nat.reduceLT, reduceLE, reduceLT, reduceEq, reduceNe, f1, x1, x2, x3]
 rcases some_cases (1 + 7 * n + 2) r4 with h5 | ⟨l3, r5, h5⟩
 · rw [h5] at m5
   refine icall_drop [] m5 ⟨arg_l (pureB _), arg_c, trivial⟩ okR_some ?_
   simp only [↓wt, wz, reduceAdd, reduceMul, reduceEqDiff, reduceLeDiff, Nat.reduceLT, reduceLE, reduceLT, reduceEq, reduceNe, SomeV, Bs, Cell, Tryz.results8]
   exact exp_kN fun k hk he => by
    have := t7 hk
    rw [(H4 k hk he).2, hnt, h5] at this; simp at this
 rw [h5] at m5
 obtain ⟨hb5, hl3, hg3⟩ := some_of h5
 have H5 : ∀ k, MayK c w k → encBk k = s → (k.ck = v ∧ k.r = p ∧ lineL k.l = l1 ∧ k.l.length = i ∧ outsL k.o = l2 ∧ k.o.length = j) ∧ midL k = l3 ∧ tl7 k = r5 := fun k hk he => by
  have := t7 hk
  rw [(H4 k hk he).2, hnt, h5] at this
  simp only [Prod.mk.injEq, and_true] at this
  exact ⟨(H4 k hk he).1, this.1.symm, this.2.symm⟩
 have hr5 : r5.length ≤ s.length := by
  have := congrArg List.length hb5
  simp only [List.length_append] at this; omega
 refine icall_drop [] m5 ⟨arg_l (pureB _), arg_c, trivial⟩ okR_some ?_
 simp only [↓wt, wz, reduceAdd, reduceMul, reduceEqDiff, reduceLeDiff, Nat.reduceLT, reduceLE, reduceLT, reduceEq, reduceNe, SomeV, Bs, elem_I]
 repeat (refine And.intro (by omega) ?_)
 refine freeze_rule 5 [1, 3, 6, 8, 10, 13, 14, 17] (by simp only [↓wt, wz, reduceAdd, reduceMul, reduceEqDiff, reduceLeDiff, Nat.reduceLT, reduceLE, reduceLT, reduceEq, reduceNe, underL_U, ocOf_len]; (try (repeat' (first | (exact fun _ => by simp only [pureL_eq, underL_cons, underL_nil, AV.cells, under_l, under_c, under_g, under_e, under_f, underL_B, underL_I, underL_Bs, under_Bs, List.mem_cons, List.not_mem_nil, or_false, forall_eq_or_imp, forall_eq, and_self, and_true, true_and, underL_U, ocOf_len]) | ((with_reducible refine And.intro ?_ ?_)) | (intro _) | omega | (simp only [pureL_eq, underL_cons, underL_nil, AV.cells, under_l, under_c, under_g, under_e, under_f, underL_B, underL_I, underL_Bs, under_Bs, List.mem_cons, List.not_mem_nil, or_false, forall_eq_or_imp, forall_eq, and_self, and_true, true_and, underL_U, ocOf_len])))); done) (by simp only [↓wt, wz, reduceAdd, reduceMul, reduceEqDiff, reduceLeDiff, Nat.reduceLT, reduceLE, reduceLT, reduceEq, reduceNe, underL_U, ocOf_len]; (try (repeat' (first | (exact fun _ => by simp only [pureL_eq, underL_cons, underL_nil, AV.cells, under_l, under_c, under_g, under_e, under_f, underL_B, underL_I, underL_Bs, under_Bs, List.mem_cons, List.not_mem_nil, or_false, forall_eq_or_imp, forall_eq, and_self, and_true, true_and, underL_U, ocOf_len]) | ((with_reducible refine And.intro ?_ ?_)) | (intro _) | omega | (simp only [pureL_eq, underL_cons, underL_nil, AV.cells, under_l, under_c, under_g, under_e, under_f, underL_B, underL_I, underL_Bs, under_Bs, List.mem_cons, List.not_mem_nil, or_false, forall_eq_or_imp, forall_eq, and_self, and_true, true_and, underL_U, ocOf_len])))); done) ?_; simp only [↓wt, wz, reduceAdd, reduceMul, reduceEqDiff, reduceLeDiff, Nat.reduceLT, reduceLE, reduceLT, reduceEq, reduceNe, underL_U, ocOf_len]
 refine adopt_cell 3 37 12 _ 5 72 7 rfl rfl ?_
 refine loop_ruleG tabOk [1, 3, 6, 8, 10, 13, 14] (fun m : Nat => [(17, .c (.int .i64 m))]) (fun m => ⟨[(0, ⟨23, 6, [ConfA c]⟩), (1, ⟨37, 12, [zeroK]⟩), (2, ⟨37, 12, [zeroK]⟩),
  (3, ⟨37, 12, [.g [.c (.int .i64 v), .l 3 (p.map RowV), .l 3 ((rqOf w l1 i).map ReqA), .l 3 ((ocOf w l2 j).map OutA), .c (.int .i64 (l3.getD 0 0)), .s 6 0 m, .c (.int .i64 0), .c (.int .i64 0), .c (.slice none 0 0), .c (.slice none 0 0), .c (.slice none 0 0), .c (.bool false)]]⟩), (6, ⟨72, 7, (ntOf l3 m).map NoteV⟩)], 7⟩)
  (fun m => m ≤ n) (fun m => n - m) 0 (by omega) (fun _ => Nat.le_refl _) ?_ ?_
 · simp only [↓wt, wz, wkf, reduceAdd, reduceMul, reduceEqDiff, reduceLeDiff, Nat.reduceLT, reduceLE, reduceLT, reduceEq, reduceNe, ConfA, zeroK, underL_R, underL_Q, underL_U, underL_N, underL_O, underL_I]
   rfl
 intro m hm3
 have e3 := wi_succ (k := m) (by omega)
 have y1 : IntKind.i64.wrap (7 * (m : Int)) = ((7 * m : Nat) : Int) := by rw [wrap_i64 (by omega) (by omega)]; omega
 have y2 : IntKind.i64.wrap (1 + ((7 * m : Nat) : Int)) = ((7 * m + 1 : Nat) : Int) := by rw [wrap_i64 (by omega) (by omega)]; omega
 have y3 : IntKind.i64.wrap (8 + ((7 * m : Nat) : Int)) = ((7 * m + 1 + 7 : Nat) : Int) := by rw [wrap_i64 (by omega) (by omega)]; omega
 have hq3 := ntOf_succ l3 m
 simp only [↓wt, wz, reduceAdd, reduceMul, reduceEqDiff, reduceLeDiff, Nat.reduceLT, reduceLE, reduceLT, reduceEq, reduceNe, ConfA, zeroK]
 cases f2 : decide ((m : Int) < c.n)
 rotate_left
 · have hmn : m < n := by have := of_decide_eq_true f2; omega
   simp only [↓wt, wz, reduceAdd, reduceMul, reduceEqDiff, reduceLeDiff, Nat.reduceLT, reduceLE, reduceLT, reduceEq, reduceNe, f2, y1, y2, y3]
   repeat (refine And.intro (by omega) ?_)
   have hL7 : (List.take (7 * m + 1 + 7 - (7 * m + 1)) (List.drop (7 * m + 1) l3)).length = 7 := by rw [List.length_take, List.length_drop]; omega
   have hLg : ∀ t, t < 7 → (List.take (7 * m + 1 + 7 - (7 * m + 1)) (List.drop (7 * m + 1) l3)).getD t 0 = l3.getD (7 * m + (t + 1)) 0 := fun t ht => by
    simp only [List.getD_eq_getElem?_getD]
    rw [List.getElem?_take, if_pos (by omega), List.getElem?_drop, show 7 * m + 1 + t = 7 * m + (t + 1) by omega]
   generalize List.take (7 * m + 1 + 7 - (7 * m + 1)) (List.drop (7 * m + 1) l3) = L at *
   have g0 := hLg 0 (by omega)
   have g1 : L.getD (Int.toNat 1) 0 = l3.getD (7 * m + 2) 0 := hLg 1 (by omega)
   have g2 : L.getD (Int.toNat 2) 0 = l3.getD (7 * m + 3) 0 := hLg 2 (by omega)
   have g3 : L.getD (Int.toNat 3) 0 = l3.getD (7 * m + 4) 0 := hLg 3 (by omega)
   have g4 : L.getD (Int.toNat 4) 0 = l3.getD (7 * m + 5) 0 := hLg 4 (by omega)
   have g5 : L.getD (Int.toNat 5) 0 = l3.getD (7 * m + 6) 0 := hLg 5 (by omega)
   have g6 : L.getD (Int.toNat 6) 0 = l3.getD (7 * m + 7) 0 := hLg 6 (by omega)
   refine draw_rule tabOk mixed [0, 2, 0, 0, 0, 0, 0, 0, 0, 0, 0, 3, 0, 0, 0, 3, 0, 0, 0, 0, 0, 0, 0, 0, 0, 3, 3, 0, 1, 0, 1] [[], [0], [], [2], [2, 3], [], [5], [5, 6], [], [8], [8, 9], [5, 6, 7, 8, 9, 10], [], [12], [12, 13], [5, 6, 7, 8, 9, 10, 11, 12, 13, 14], [], [16], [16, 17], [], [19], [19, 20], [], [22], [22, 23], [19, 20, 21, 22, 23, 24], [2, 3, 4, 5, 6, 7, 8, 9, 10, 11, 12, 13, 14, 15, 16, 17, 18, 19, 20, 21, 22, 23, 24, 25], [2, 3, 4, 5, 6, 7, 8, 9, 10, 11, 12, 13, 14, 15, 16, 17, 18, 19, 20, 21, 22, 23, 24, 25, 26], [0, 1, 2, 3, 4, 5, 6, 7, 8, 9, 10, 11, 12, 13, 14, 15, 16, 17, 18, 19, 20, 21, 22, 23, 24, 25, 26, 27], [0, 1, 2, 3, 4, 5, 6, 7, 8, 9, 10, 11, 12, 13, 14, 15, 16, 17, 18, 19, 20, 21, 22, 23, 24, 25, 26, 27, 28], [0, 1, 2, 3, 4, 5, 6, 7, 8, 9, 10, 11, 12, 13, 14, 15, 16, 17, 18, 19, 20, 21, 22, 23, 24, 25, 26, 27, 28, 29]] (by kernel_rfl) ?_
   simp only [↓wt, wz, reduceAdd, reduceMul, reduceEqDiff, reduceLeDiff, Nat.reduceLT, reduceLE, reduceLT, reduceEq, reduceNe, elem_I]
   repeat (refine And.intro (by omega) ?_)
   refine d_pureX (fun M0 => by simp only [↓wt, wz, reduceAdd, reduceMul, reduceEqDiff, reduceLeDiff, Nat.reduceLT, reduceLE, reduceLT, reduceEq, reduceNe, zx_build, encI_eq]; rfl) ?_
   simp only [↓wt, wz, reduceAdd, reduceMul, reduceEqDiff, reduceLeDiff, Nat.reduceLT, reduceLE, reduceLT, reduceEq, reduceNe, elem_I, encI_eq]
   repeat (refine And.intro (by omega) ?_)
   refine d_pureX (fun M0 => by simp only [↓wt, wz, reduceAdd, reduceMul, reduceEqDiff, reduceLeDiff, Nat.reduceLT, reduceLE, reduceLT, reduceEq, reduceNe, zx_build, encI_eq]; rfl) ?_
   simp only [↓wt, wz, reduceAdd, reduceMul, reduceEqDiff, reduceLeDiff, Nat.reduceLT, reduceLE, reduceLT, reduceEq, reduceNe, elem_I, encI_eq]
   repeat (refine And.intro (by omega) ?_)
   refine d_pureX (fun M0 => by simp only [↓wt, wz, reduceAdd, reduceMul, reduceEqDiff, reduceLeDiff, Nat.reduceLT, reduceLE, reduceLT, reduceEq, reduceNe, zx_build, encI_eq]; rfl) ?_
   simp only [↓wt, wz, reduceAdd, reduceMul, reduceEqDiff, reduceLeDiff, Nat.reduceLT, reduceLE, reduceLT, reduceEq, reduceNe, elem_I, encI_eq]
   refine d_pureX (fun M0 => by simp only [↓wt, wz, reduceAdd, reduceMul, reduceEqDiff, reduceLeDiff, Nat.reduceLT, reduceLE, reduceLT, reduceEq, reduceNe, zx_build, encI_eq]; rfl) ?_
   simp only [↓wt, wz, reduceAdd, reduceMul, reduceEqDiff, reduceLeDiff, Nat.reduceLT, reduceLE, reduceLT, reduceEq, reduceNe, encI_eq]
   refine d_heavyX (by simp only [↓wt, wz, reduceAdd, reduceMul, reduceEqDiff, reduceLeDiff, Nat.reduceLT, reduceLE, reduceLT, reduceEq, reduceNe, ntOf_len, Cell]; (repeat (first | refine And.intro (by omega) ?_ | refine And.intro (pureB _) ?_ | refine And.intro (pureI _) ?_ | refine And.intro ⟨pureB _, pureB _⟩ ?_ | refine And.intro ⟨pureB _, pureI _⟩ ?_ | refine And.intro ⟨pureI _, pureB _⟩ ?_ | refine And.intro ⟨pureI _, pureI _⟩ ?_)); exact ⟨rfl, rfl⟩) ?_
   simp only [↓wt, wz, reduceAdd, reduceMul, reduceEqDiff, reduceLeDiff, Nat.reduceLT, reduceLE, reduceLT, reduceEq, reduceNe]
   refine d_heavyX (by simp only [↓wt, wz, reduceAdd, reduceMul, reduceEqDiff, reduceLeDiff, Nat.reduceLT, reduceLE, reduceLT, reduceEq, reduceNe, Cell]; (repeat (first | refine And.intro (by omega) ?_ | refine And.intro (pureB _) ?_ | refine And.intro (pureI _) ?_ | refine And.intro ⟨pureB _, pureB _⟩ ?_ | refine And.intro ⟨pureB _, pureI _⟩ ?_ | refine And.intro ⟨pureI _, pureB _⟩ ?_ | refine And.intro ⟨pureI _, pureI _⟩ ?_)); exact ⟨rfl, rfl⟩) ?_
   simp only [↓wt, wz, reduceAdd, reduceMul, reduceEqDiff, reduceLeDiff, Nat.reduceLT, reduceLE, reduceLT, reduceEq, reduceNe, e3]
   refine ⟨m + 1, by omega, by omega, ?_⟩
   simp only [↓wt, wz, wkf, reduceAdd, reduceMul, reduceEqDiff, reduceLeDiff, Nat.reduceLT, reduceLE, reduceLT, reduceEq, reduceNe, e3, hq3, g0, g1, g2, g3, g4, g5, g6, ConfA, zeroK, underL_R, underL_Q, underL_U, underL_N, underL_O, underL_I, List.map_append, NoteV_eq]
   have hul := underL_N (k := 7) (l := ntOf l3 m ++ [⟨l3.getD (7 * m + 1) 0, l3.getD (7 * m + 2) 0, l3.getD (7 * m + 3) 0, l3.getD (7 * m + 4) 0, l3.getD (7 * m + 5) 0, l3.getD (7 * m + 6) 0, l3.getD (7 * m + 7) 0⟩])
   rw [List.map_append] at hul
   exact hul.mpr trivial
 have hmn : m = n := by have := of_decide_eq_false f2; omega
 subst hmn
 simp only [↓wt, wz, reduceAdd, reduceMul, reduceEqDiff, reduceLeDiff, Nat.reduceLT, reduceLE, reduceLT, reduceEq, reduceNe, f2]
 refine freeze_rule 6 [1, 3, 6, 8, 10, 13, 14] (by simp only [↓wt, wz, reduceAdd, reduceMul, reduceEqDiff, reduceLeDiff, Nat.reduceLT, reduceLE, reduceLT, reduceEq, reduceNe, underL_N, ntOf_len]; (try (repeat' (first | (exact fun _ => by simp only [pureL_eq, underL_cons, underL_nil, AV.cells, under_l, under_c, under_g, under_e, under_f, underL_B, underL_I, underL_Bs, under_Bs, List.mem_cons, List.not_mem_nil, or_false, forall_eq_or_imp, forall_eq, and_self, and_true, true_and, underL_N, ntOf_len]) | ((with_reducible refine And.intro ?_ ?_)) | (intro _) | omega | (simp only [pureL_eq, underL_cons, underL_nil, AV.cells, under_l, under_c, under_g, under_e, under_f, underL_B, underL_I, underL_Bs, under_Bs, List.mem_cons, List.not_mem_nil, or_false, forall_eq_or_imp, forall_eq, and_self, and_true, true_and, underL_N, ntOf_len])))); done) (by simp only [↓wt, wz, reduceAdd, reduceMul, reduceEqDiff, reduceLeDiff, Nat.reduceLT, reduceLE, reduceLT, reduceEq, reduceNe, underL_N, ntOf_len]; (try (repeat' (first | (exact fun _ => by simp only [pureL_eq, underL_cons, underL_nil, AV.cells, under_l, under_c, under_g, under_e, under_f, underL_B, underL_I, underL_Bs, under_Bs, List.mem_cons, List.not_mem_nil, or_false, forall_eq_or_imp, forall_eq, and_self, and_true, true_and, underL_N, ntOf_len]) | ((with_reducible refine And.intro ?_ ?_)) | (intro _) | omega | (simp only [pureL_eq, underL_cons, underL_nil, AV.cells, under_l, under_c, under_g, under_e, under_f, underL_B, underL_I, underL_Bs, under_Bs, List.mem_cons, List.not_mem_nil, or_false, forall_eq_or_imp, forall_eq, and_self, and_true, true_and, underL_N, ntOf_len])))); done) ?_; simp only [↓wt, wz, reduceAdd, reduceMul, reduceEqDiff, reduceLeDiff, Nat.reduceLT, reduceLE, reduceLT, reduceEq, reduceNe, underL_N, ntOf_len]
 refine draw_rule tabOk mixed [0, 0, 2, 0, 0, 2, 2, 0, 0, 2, 0, 0, 2, 2, 3, 0, 0, 1] [[], [], [1], [1, 2], [1, 2, 3], [0, 1, 2, 3, 4], [0, 1, 2, 3, 4, 5], [], [], [8], [8, 9], [8, 9, 10], [7, 8, 9, 10, 11], [7, 8, 9, 10, 11, 12], [0, 1, 2, 3, 4, 5, 6, 7, 8, 9, 10, 11, 12, 13], [0, 1, 2, 3, 4, 5, 6, 7, 8, 9, 10, 11, 12, 13, 14], [0, 1, 2, 3, 4, 5, 6, 7, 8, 9, 10, 11, 12, 13, 14, 15], [0, 1, 2, 3, 4, 5, 6, 7, 8, 9, 10, 11, 12, 13, 14, 15, 16]] (by kernel_rfl) ?_
 simp only [↓wt, wz, reduceAdd, reduceMul, reduceEqDiff, reduceLeDiff, Nat.reduceLT, reduceLE, reduceLT, reduceEq, reduceNe, elem_I, x1, x2, x4]
 repeat (refine And.intro (by omega) ?_)
 refine d_pureX (fun M0 => by simp only [↓wt, wz, reduceAdd, reduceMul, reduceEqDiff, reduceLeDiff, Nat.reduceLT, reduceLE, reduceLT, reduceEq, reduceNe, zx_build, encI_eq]; rfl) ?_
 simp only [↓wt, wz, reduceAdd, reduceMul, reduceEqDiff, reduceLeDiff, Nat.reduceLT, reduceLE, reduceLT, reduceEq, reduceNe, encI_eq]
 refine d_heavyX (by simp only [↓wt, wz, reduceAdd, reduceMul, reduceEqDiff, reduceLeDiff, Nat.reduceLT, reduceLE, reduceLT, reduceEq, reduceNe, Cell]; (repeat (first | refine And.intro (by omega) ?_ | refine And.intro (pureB _) ?_ | refine And.intro (pureI _) ?_ | refine And.intro ⟨pureB _, pureB _⟩ ?_ | refine And.intro ⟨pureB _, pureI _⟩ ?_ | refine And.intro ⟨pureI _, pureB _⟩ ?_ | refine And.intro ⟨pureI _, pureI _⟩ ?_)); exact ⟨rfl, rfl⟩) ?_
 simp only [↓wt, wz, reduceAdd, reduceMul, reduceEqDiff, reduceLeDiff, Nat.reduceLT, reduceLE, reduceLT, reduceEq, reduceNe]
 have m8 := fun k hk => rbkmay_call c w k hk
 have hcl : ∀ k, MayK c w k → encBk k = s → (bkOf w v p l1 i l2 j l3 m k.a = k ∧ k.a.y = l3.getD (7 * m + 1) 0 ∧ k.a.p = l3.getD (7 * m + 2) 0) ∧ tl7 k = r5 := fun k hk he => by
  obtain ⟨⟨g1, g2, g3, g4, g5, g6⟩, g7, g8⟩ := H5 k hk he
  have e1 := bkOf_back hk
  rw [g1, g2, g3, g4, g5, g6, g7, hnt] at e1
  have e2 := mid_y k
  have e4 : k.n.length = m := by have := (may_len hk).2.2.2.2.2; omega
  rw [e4, g7] at e2
  exact ⟨⟨e1, e2.1.symm, e2.2.symm⟩, g8⟩
 have hsum : s = encN [v] ++ (encN (numsB p) ++ (encN [(i : Int)] ++ (encN l1 ++ (encN [(j : Int)] ++ (encN l2 ++ (encN l3 ++ r5)))))) := by
  rw [← hb5, ← hb4, ← hb3, ← hb2, ← hb1]
 have hfo := fun (a : AudD) (h1 : a.y = l3.getD (7 * m + 1) 0) (h2 : a.p = l3.getD (7 * m + 2) 0) => bkOf_forth (who := w) (v := v) (r := p) (l1 := l1) (n1 := i) (l2 := l2) (n2 := j) (l3 := l3) (n := m) (by omega) (by omega) (by omega) h1 h2
 have hlens : Lens p := right_lens hrb
 by_cases h00 : l3.getD (7 * m + 1) 0 = 0 ∧ l3.getD (7 * m + 2) 0 = 0
 · have f5 : decide (l3.getD (7 * m + 1) 0 = 0) = true := decide_eq_true h00.1
   have f6 : decide (l3.getD (7 * m + 2) 0 = 0) = true := decide_eq_true h00.2
   have hn0 : ∀ k, MayK c w k → encBk k = s → r5 = [] ∧ k.a = aud00 := fun k hk he => by
    obtain ⟨⟨_, g1, g2⟩, g3⟩ := hcl k hk he
    have := t8n hk ⟨g1.trans h00.1, g2.trans h00.2⟩
    exact ⟨g3.symm.trans this.1, this.2⟩
   cases f7 : decide ((r5.length : Int) > 0)
   rotate_left
   · simp only [↓wt, wz, reduceAdd, reduceMul, reduceEqDiff, reduceLeDiff, Nat.reduceLT, reduceLE, reduceLT, reduceEq, reduceNe, f5, f6, f7, Cell, Tryz.results8]
     exact exp_kN fun k hk he => by have := (hn0 k hk he).1; have := of_decide_eq_true f7; simp_all
   have h50 : r5 = [] := List.length_eq_zero_iff.1 (by have := of_decide_eq_false f7; omega)
   simp only [↓wt, wz, reduceAdd, reduceMul, reduceEqDiff, reduceLeDiff, Nat.reduceLT, reduceLE, reduceLT, reduceEq, reduceNe, f5, f6, f7]
   refine icall_drop [] (rbkmay_call c w (bkOf w v p l1 i l2 j l3 m ⟨l3.getD (7 * m + 1) 0, l3.getD (7 * m + 2) 0, [], [], [], false⟩) ⟨hlens, by show (rqOf w l1 i).length ≤ _; rw [rqOf_len]; omega, by show (ocOf w l2 j).length ≤ _; rw [ocOf_len]; omega, by show (ntOf l3 m).length ≤ _; rw [ntOf_len]; omega, ⟨Nat.zero_le _, Nat.zero_le _, Nat.zero_le _⟩⟩) ⟨arg_conf', arg_c, arg_gL ⟨argC_c, argC_l (pureR _), argC_l (pureQ _), argC_l (pureU _), argC_c, argC_l (pureN _), argC_c, argC_c, argC_nil, argC_nil, argC_nil, argC_c, trivial⟩, trivial⟩ (.c _) ?_
   have haud : (⟨l3.getD (7 * m + 1) 0, l3.getD (7 * m + 2) 0, [], [], [], false⟩ : AudD) = aud00 := by rw [h00.1, h00.2]; rfl
   cases f8 : decide (MayK c w (bkOf w v p l1 i l2 j l3 m ⟨l3.getD (7 * m + 1) 0, l3.getD (7 * m + 2) 0, [], [], [], false⟩))
   · simp only [↓wt, wz, reduceAdd, reduceMul, reduceEqDiff, reduceLeDiff, Nat.reduceLT, reduceLE, reduceLT, reduceEq, reduceNe, f8, Cell, Tryz.results8]
     refine exp_kN fun k hk he => of_decide_eq_false f8 ?_
     rw [haud, ← (hn0 k hk he).2, (hcl k hk he).1.1]
     exact hk
   · simp only [↓wt, wz, reduceAdd, reduceMul, reduceEqDiff, reduceLeDiff, Nat.reduceLT, reduceLE, reduceLT, reduceEq, reduceNe, f8, Cell, Tryz.results8]
     refine exp_kY (of_decide_eq_true f8) ?_ (xA_g (xL_cons xC_c (xL_cons (xC_pure (.refl _) (.l _ _ (pureR _))) (xL_cons (xC_pure (.refl _) (.l _ _ (pureQ _))) (xL_cons (xC_pure (.refl _) (.l _ _ (pureU _))) (xL_cons xC_c (xL_cons (xC_pure (.refl _) (.l _ _ (pureN _))) (xL_cons xC_c (xL_cons xC_c (xL_cons (xC_pure trivial okR_nil) (xL_cons (xC_pure trivial okR_nil) (xL_cons (xC_pure trivial okR_nil) (xL_cons xC_c xL_nil)))))))))))))
     rw [hfo _ rfl rfl, hsum, h50, haud, audT, if_pos none00]
     rfl
 have z1 : IntKind.i64.wrap (3 * c.n) = ((3 * m : Nat) : Int) := by rw [hcn, wrap_i64 (by omega) (by omega)]; omega
 have z2 : IntKind.i64.wrap (((3 * m : Nat) : Int) + 1) = ((3 * m + 1 : Nat) : Int) := by rw [wrap_i64 (by omega) (by omega)]; omega
 have hne : ∀ k, MayK c w k → encBk k = s → k.a.y ≠ 0 ∨ k.a.p ≠ 0 := fun k hk he => by
  obtain ⟨⟨_, g1, g2⟩, g3⟩ := hcl k hk he
  omega
 have m9 := mrsome_call r5 (3 * m + 1) (by omega) (by omega)
 rcases some_cases (3 * m + 1) r5 with h6 | ⟨l4, r6, h6⟩
 · rw [h6] at m9
   have hx : ∀ k, MayK c w k → encBk k = s → False := fun k hk he => by
    have := (t8 hk (hne k hk he)).1
    rw [(hcl k hk he).2, hnt, h6] at this; simp at this
   rcases (by omega : l3.getD (7 * m + 1) 0 ≠ 0 ∨ (l3.getD (7 * m + 1) 0 = 0 ∧ l3.getD (7 * m + 2) 0 ≠ 0)) with hy | ⟨hy, hp⟩
   · have f5 : decide (l3.getD (7 * m + 1) 0 = 0) = false := decide_eq_false hy
     simp only [↓wt, wz, reduceAdd, reduceMul, reduceEqDiff, reduceLeDiff, Nat.reduceLT, reduceLE, reduceLT, reduceEq, reduceNe, f5, z1, z2]
     refine icall_drop [] m9 ⟨arg_l (pureB _), arg_c, trivial⟩ okR_some ?_
     simp only [↓wt, wz, reduceAdd, reduceMul, reduceEqDiff, reduceLeDiff, Nat.reduceLT, reduceLE, reduceLT, reduceEq, reduceNe, SomeV, Bs, Cell, Tryz.results8]
     exact exp_kN hx
   · have f5 : decide (l3.getD (7 * m + 1) 0 = 0) = true := decide_eq_true hy
     have f6 : decide (l3.getD (7 * m + 2) 0 = 0) = false := decide_eq_false hp
     simp only [↓wt, wz, reduceAdd, reduceMul, reduceEqDiff, reduceLeDiff, Nat.reduceLT, reduceLE, reduceLT, reduceEq, reduceNe, f5, f6, z1, z2]
     refine icall_drop [] m9 ⟨arg_l (pureB _), arg_c, trivial⟩ okR_some ?_
     simp only [↓wt, wz, reduceAdd, reduceMul, reduceEqDiff, reduceLeDiff, Nat.reduceLT, reduceLE, reduceLT, reduceEq, reduceNe, SomeV, Bs, Cell, Tryz.results8]
     exact exp_kN hx
 rw [h6] at m9
 obtain ⟨hb6, hl4, hg4⟩ := some_of h6
 have H6 : ∀ k, MayK c w k → encBk k = s → triL k.a m ++ [flagI k.a.mv] = l4 ∧ r6 = [] ∧ audOf (l3.getD (7 * m + 1) 0) (l3.getD (7 * m + 2) 0) l4 m = k.a := fun k hk he => by
  obtain ⟨⟨_, g1, g2⟩, g3⟩ := hcl k hk he
  have e1 := (t8 hk (hne k hk he)).1
  have e2 := audOf_back hk (hne k hk he)
  rw [g3, hnt, h6] at e1
  simp only [Prod.mk.injEq, and_true] at e1
  rw [hnt, g1, g2, ← e1.1] at e2
  exact ⟨e1.1.symm, e1.2, e2⟩
 rcases (by omega : l3.getD (7 * m + 1) 0 ≠ 0 ∨ (l3.getD (7 * m + 1) 0 = 0 ∧ l3.getD (7 * m + 2) 0 ≠ 0)) with hy | ⟨hy, hp⟩
 · have f5 : decide (l3.getD (7 * m + 1) 0 = 0) = false := decide_eq_false hy
   · simp only [↓wt, wz, reduceAdd, reduceMul, reduceEqDiff, reduceLeDiff, Nat.reduceLT, reduceLE, reduceLT, reduceEq, reduceNe, f5, z1, z2]
     refine icall_drop [] m9 ⟨arg_l (pureB _), arg_c, trivial⟩ okR_some ?_
     simp only [↓wt, wz, reduceAdd, reduceMul, reduceEqDiff, reduceLeDiff, Nat.reduceLT, reduceLE, reduceLT, reduceEq, reduceNe, SomeV, Bs, z1, elem_I]
     repeat (refine And.intro (by omega) ?_)
     refine icall_drop [] (rflag_call _) ⟨arg_c, trivial⟩ (.c _) ?_
     cases f7 : decide (l4.getD (3 * m) 0 = 0 ∨ l4.getD (3 * m) 0 = 1)
     · simp only [↓wt, wz, reduceAdd, reduceMul, reduceEqDiff, reduceLeDiff, Nat.reduceLT, reduceLE, reduceLT, reduceEq, reduceNe, f7, Cell, Tryz.results8]
       exact exp_kN fun k hk he => of_decide_eq_false f7 (by rw [← (H6 k hk he).1, tri_end]; exact flag01 _)
     have hf7 := of_decide_eq_true f7
     simp only [↓wt, wz, reduceAdd, reduceMul, reduceEqDiff, reduceLeDiff, Nat.reduceLT, reduceLE, reduceLT, reduceEq, reduceNe, f7]
     refine adopt_cell 3 37 12 _ 8 4 1 rfl rfl ?_
     refine adopt_cell 3 37 12 _ 9 2 1 rfl rfl ?_
     refine adopt_cell 3 37 12 _ 10 2 1 rfl rfl ?_
     refine loop_ruleG tabOk [1, 3, 6, 8, 10, 13, 14] (fun q : Nat => [(19, .c (.int .i64 q))]) (fun q => ⟨[(0, ⟨23, 6, [ConfA c]⟩), (1, ⟨37, 12, [zeroK]⟩), (2, ⟨37, 12, [zeroK]⟩),
      (3, ⟨37, 12, [.g [.c (.int .i64 v), .l 3 (p.map RowV), .l 3 ((rqOf w l1 i).map ReqA), .l 3 ((ocOf w l2 j).map OutA), .c (.int .i64 (l3.getD 0 0)), .l 7 ((ntOf l3 m).map NoteV), .c (.int .i64 (l3.getD (7 * m + 1) 0)), .c (.int .i64 (l3.getD (7 * m + 2) 0)), .s 7 0 q, .s 8 0 q, .s 9 0 q, .c (.bool false)]]⟩),
      (7, ⟨4, 1, (tdOf l4 q).map encO⟩), (8, ⟨2, 1, (usOf l4 q).map encI⟩), (9, ⟨2, 1, (icOf l4 q).map encI⟩)], 10⟩)
      (fun q => q ≤ m ∧ ∀ j, j < q → l4.getD (3 * j) 0 = 0 ∨ l4.getD (3 * j) 0 = 1) (fun q => m - q) 0 ⟨by omega, fun j h => by omega⟩ (fun _ => Nat.le_refl _) ?_ ?_
     · simp only [↓wt, wz, wkf, reduceAdd, reduceMul, reduceEqDiff, reduceLeDiff, Nat.reduceLT, reduceLE, reduceLT, reduceEq, reduceNe, ConfA, zeroK, underL_R, underL_Q, underL_U, underL_N, underL_O, underL_I]
       exact ⟨rfl, rfl, rfl⟩
     rintro q ⟨hq1, hq2⟩
     have e4 := wi_succ (k := q) (by omega)
     have z3 : IntKind.i64.wrap (3 * (q : Int)) = ((3 * q : Nat) : Int) := by rw [wrap_i64 (by omega) (by omega)]; omega
     have z4 : IntKind.i64.wrap (((3 * q : Nat) : Int) + 1) = ((3 * q + 1 : Nat) : Int) := by rw [wrap_i64 (by omega) (by omega)]; omega
     have z5 : IntKind.i64.wrap (((3 * q : Nat) : Int) + 2) = ((3 * q + 2 : Nat) : Int) := by rw [wrap_i64 (by omega) (by omega)]; omega
     have u1 := tdOf_succ l4 q
     have u2 := usOf_succ l4 q
     have u3 := icOf_succ l4 q
     simp only [↓wt, wz, reduceAdd, reduceMul, reduceEqDiff, reduceLeDiff, Nat.reduceLT, reduceLE, reduceLT, reduceEq, reduceNe, ConfA, zeroK]
     cases f8 : decide ((q : Int) < c.n)
     rotate_left
     · have hqm : q < m := by have := of_decide_eq_true f8; omega
       simp only [↓wt, wz, reduceAdd, reduceMul, reduceEqDiff, reduceLeDiff, Nat.reduceLT, reduceLE, reduceLT, reduceEq, reduceNe, f8, z3, elem_I]
       repeat (refine And.intro (by omega) ?_)
       refine icall_drop [] (rflag_call _) ⟨arg_c, trivial⟩ (.c _) ?_
       cases f9 : decide (l4.getD (3 * q) 0 = 0 ∨ l4.getD (3 * q) 0 = 1)
       · simp only [↓wt, wz, reduceAdd, reduceMul, reduceEqDiff, reduceLeDiff, Nat.reduceLT, reduceLE, reduceLT, reduceEq, reduceNe, f9, Cell, Tryz.results8]
         exact exp_kN fun k hk he => of_decide_eq_false f9 (by rw [← (H6 k hk he).1, show 3 * q = 3 * q + 0 from rfl, tri_at _ _ hqm (by decide)]; exact flag01 _)
       simp only [↓wt, wz, reduceAdd, reduceMul, reduceEqDiff, reduceLeDiff, Nat.reduceLT, reduceLE, reduceLT, reduceEq, reduceNe, f9]
       refine draw_rule tabOk mixed [0, 0, 2, 0, 0, 0, 0, 0, 0, 0, 1, 0, 0, 1] [[], [0], [0, 1], [], [], [4], [3, 4, 5], [3, 4, 5, 6], [3, 4, 5, 6, 7], [3, 4, 5, 6, 7, 8], [0, 1, 2, 3, 4, 5, 6, 7, 8, 9], [0, 1, 2, 3, 4, 5, 6, 7, 8, 9, 10], [0, 1, 2, 3, 4, 5, 6, 7, 8, 9, 10, 11], [0, 1, 2, 3, 4, 5, 6, 7, 8, 9, 10, 11, 12]] (by kernel_rfl) ?_
       simp only [↓wt, wz, reduceAdd, reduceMul, reduceEqDiff, reduceLeDiff, Nat.reduceLT, reduceLE, reduceLT, reduceEq, reduceNe, elem_I, z3]
       repeat (refine And.intro (by omega) ?_)
       refine d_heavyX (by simp only [↓wt, wz, reduceAdd, reduceMul, reduceEqDiff, reduceLeDiff, Nat.reduceLT, reduceLE, reduceLT, reduceEq, reduceNe, tdOf_len, Cell]; (repeat (first | refine And.intro (by omega) ?_ | refine And.intro (pureB _) ?_ | refine And.intro (pureI _) ?_ | refine And.intro ⟨pureB _, pureB _⟩ ?_ | refine And.intro ⟨pureB _, pureI _⟩ ?_ | refine And.intro ⟨pureI _, pureB _⟩ ?_ | refine And.intro ⟨pureI _, pureI _⟩ ?_)); exact ⟨rfl, rfl⟩) ?_
       simp only [↓wt, wz, reduceAdd, reduceMul, reduceEqDiff, reduceLeDiff, Nat.reduceLT, reduceLE, reduceLT, reduceEq, reduceNe]
       refine d_heavyX (by simp only [↓wt, wz, reduceAdd, reduceMul, reduceEqDiff, reduceLeDiff, Nat.reduceLT, reduceLE, reduceLT, reduceEq, reduceNe, Cell]; (repeat (first | refine And.intro (by omega) ?_ | refine And.intro (pureB _) ?_ | refine And.intro (pureI _) ?_ | refine And.intro ⟨pureB _, pureB _⟩ ?_ | refine And.intro ⟨pureB _, pureI _⟩ ?_ | refine And.intro ⟨pureI _, pureB _⟩ ?_ | refine And.intro ⟨pureI _, pureI _⟩ ?_)); exact ⟨rfl, rfl⟩) ?_
       simp only [↓wt, wz, reduceAdd, reduceMul, reduceEqDiff, reduceLeDiff, Nat.reduceLT, reduceLE, reduceLT, reduceEq, reduceNe]
       refine draw_rule tabOk mixed [0, 0, 2, 0, 0, 0, 0, 0, 0, 0, 1, 0, 0, 1] [[], [0], [0, 1], [], [], [4], [4, 5], [3, 4, 5, 6], [3, 4, 5, 6, 7], [3, 4, 5, 6, 7, 8], [0, 1, 2, 3, 4, 5, 6, 7, 8, 9], [0, 1, 2, 3, 4, 5, 6, 7, 8, 9, 10], [0, 1, 2, 3, 4, 5, 6, 7, 8, 9, 10, 11], [0, 1, 2, 3, 4, 5, 6, 7, 8, 9, 10, 11, 12]] (by kernel_rfl) ?_
       simp only [↓wt, wz, reduceAdd, reduceMul, reduceEqDiff, reduceLeDiff, Nat.reduceLT, reduceLE, reduceLT, reduceEq, reduceNe, elem_I, z3, z4]
       repeat (refine And.intro (by omega) ?_)
       refine d_heavyX (by simp only [↓wt, wz, reduceAdd, reduceMul, reduceEqDiff, reduceLeDiff, Nat.reduceLT, reduceLE, reduceLT, reduceEq, reduceNe, usOf_len, Cell]; (repeat (first | refine And.intro (by omega) ?_ | refine And.intro (pureB _) ?_ | refine And.intro (pureI _) ?_ | refine And.intro ⟨pureB _, pureB _⟩ ?_ | refine And.intro ⟨pureB _, pureI _⟩ ?_ | refine And.intro ⟨pureI _, pureB _⟩ ?_ | refine And.intro ⟨pureI _, pureI _⟩ ?_)); exact ⟨rfl, rfl⟩) ?_
       simp only [↓wt, wz, reduceAdd, reduceMul, reduceEqDiff, reduceLeDiff, Nat.reduceLT, reduceLE, reduceLT, reduceEq, reduceNe]
       refine d_heavyX (by simp only [↓wt, wz, reduceAdd, reduceMul, reduceEqDiff, reduceLeDiff, Nat.reduceLT, reduceLE, reduceLT, reduceEq, reduceNe, Cell]; (repeat (first | refine And.intro (by omega) ?_ | refine And.intro (pureB _) ?_ | refine And.intro (pureI _) ?_ | refine And.intro ⟨pureB _, pureB _⟩ ?_ | refine And.intro ⟨pureB _, pureI _⟩ ?_ | refine And.intro ⟨pureI _, pureB _⟩ ?_ | refine And.intro ⟨pureI _, pureI _⟩ ?_)); exact ⟨rfl, rfl⟩) ?_
       simp only [↓wt, wz, reduceAdd, reduceMul, reduceEqDiff, reduceLeDiff, Nat.reduceLT, reduceLE, reduceLT, reduceEq, reduceNe]
       refine draw_rule tabOk mixed [0, 0, 2, 0, 0, 0, 0, 0, 0, 0, 1, 0, 0, 1] [[], [0], [0, 1], [], [], [4], [4, 5], [3, 4, 5, 6], [3, 4, 5, 6, 7], [3, 4, 5, 6, 7, 8], [0, 1, 2, 3, 4, 5, 6, 7, 8, 9], [0, 1, 2, 3, 4, 5, 6, 7, 8, 9, 10], [0, 1, 2, 3, 4, 5, 6, 7, 8, 9, 10, 11], [0, 1, 2, 3, 4, 5, 6, 7, 8, 9, 10, 11, 12]] (by kernel_rfl) ?_
       simp only [↓wt, wz, reduceAdd, reduceMul, reduceEqDiff, reduceLeDiff, Nat.reduceLT, reduceLE, reduceLT, reduceEq, reduceNe, elem_I, z3, z5]
       repeat (refine And.intro (by omega) ?_)
       refine d_heavyX (by simp only [↓wt, wz, reduceAdd, reduceMul, reduceEqDiff, reduceLeDiff, Nat.reduceLT, reduceLE, reduceLT, reduceEq, reduceNe, icOf_len, Cell]; (repeat (first | refine And.intro (by omega) ?_ | refine And.intro (pureB _) ?_ | refine And.intro (pureI _) ?_ | refine And.intro ⟨pureB _, pureB _⟩ ?_ | refine And.intro ⟨pureB _, pureI _⟩ ?_ | refine And.intro ⟨pureI _, pureB _⟩ ?_ | refine And.intro ⟨pureI _, pureI _⟩ ?_)); exact ⟨rfl, rfl⟩) ?_
       simp only [↓wt, wz, reduceAdd, reduceMul, reduceEqDiff, reduceLeDiff, Nat.reduceLT, reduceLE, reduceLT, reduceEq, reduceNe]
       refine d_heavyX (by simp only [↓wt, wz, reduceAdd, reduceMul, reduceEqDiff, reduceLeDiff, Nat.reduceLT, reduceLE, reduceLT, reduceEq, reduceNe, Cell]; (repeat (first | refine And.intro (by omega) ?_ | refine And.intro (pureB _) ?_ | refine And.intro (pureI _) ?_ | refine And.intro ⟨pureB _, pureB _⟩ ?_ | refine And.intro ⟨pureB _, pureI _⟩ ?_ | refine And.intro ⟨pureI _, pureB _⟩ ?_ | refine And.intro ⟨pureI _, pureI _⟩ ?_)); exact ⟨rfl, rfl⟩) ?_
       simp only [↓wt, wz, reduceAdd, reduceMul, reduceEqDiff, reduceLeDiff, Nat.reduceLT, reduceLE, reduceLT, reduceEq, reduceNe, e4]
       refine ⟨q + 1, ⟨by omega, fun j hj => ?_⟩, by omega, ?_⟩
       · rcases Nat.lt_or_ge j q with h | h
         · exact hq2 j h
         · have : j = q := by omega
           subst this
           exact of_decide_eq_true f9
       simp only [↓wt, wz, wkf, reduceAdd, reduceMul, reduceEqDiff, reduceLeDiff, Nat.reduceLT, reduceLE, reduceLT, reduceEq, reduceNe, e4, u1, u2, u3, ConfA, zeroK, underL_R, underL_Q, underL_U, underL_N, underL_O, underL_I, List.map_append]
       have hul1 := underL_O (k := 10) (l := tdOf l4 q ++ [decide (l4.getD (3 * q) 0 = 1)])
       have hul2 := underL_I (k := 10) (l := usOf l4 q ++ [l4.getD (3 * q + 1) 0])
       have hul3 := underL_I (k := 10) (l := icOf l4 q ++ [l4.getD (3 * q + 2) 0])
       rw [List.map_append] at hul1 hul2 hul3
       exact ⟨⟨rfl, hul1.mpr trivial⟩, hul2.mpr trivial, hul3.mpr trivial⟩
     have hqm : q = m := by have := of_decide_eq_false f8; omega
     subst hqm
     simp only [↓wt, wz, reduceAdd, reduceMul, reduceEqDiff, reduceLeDiff, Nat.reduceLT, reduceLE, reduceLT, reduceEq, reduceNe, f8, z1, elem_I, Cell]
     repeat (refine And.intro (by omega) ?_)
     have hK : bkOf w v p l1 i l2 j l3 q (audOf (l3.getD (7 * q + 1) 0) (l3.getD (7 * q + 2) 0) l4 q) = ⟨v, p, rqOf w l1 i, ocOf w l2 j, l3.getD 0 0, ntOf l3 q, ⟨l3.getD (7 * q + 1) 0, l3.getD (7 * q + 2) 0, tdOf l4 q, usOf l4 q, icOf l4 q, decide (l4.getD (3 * q) 0 = 1)⟩⟩ := rfl
     have hkk : ∀ k, MayK c w k → encBk k = s → bkOf w v p l1 i l2 j l3 q (audOf (l3.getD (7 * q + 1) 0) (l3.getD (7 * q + 2) 0) l4 q) = k := fun k hk he => by rw [(H6 k hk he).2.2]; exact (hcl k hk he).1.1
     cases f10 : decide ((r6.length : Int) > 0)
     rotate_left
     · simp only [↓wt, wz, reduceAdd, reduceMul, reduceEqDiff, reduceLeDiff, Nat.reduceLT, reduceLE, reduceLT, reduceEq, reduceNe, f10, Cell, Tryz.results8]
       exact exp_kN fun k hk he => by have := (H6 k hk he).2.1; have := of_decide_eq_true f10; simp_all
     have h60 : r6 = [] := List.length_eq_zero_iff.1 (by have := of_decide_eq_false f10; omega)
     simp only [↓wt, wz, reduceAdd, reduceMul, reduceEqDiff, reduceLeDiff, Nat.reduceLT, reduceLE, reduceLT, reduceEq, reduceNe, f10]
     refine icall_keep [7, 8, 9] (rbkmay_call c w (bkOf w v p l1 i l2 j l3 q (audOf (l3.getD (7 * q + 1) 0) (l3.getD (7 * q + 2) 0) l4 q)) ⟨hlens, by show (rqOf w l1 i).length ≤ _; rw [rqOf_len]; omega, by show (ocOf w l2 j).length ≤ _; rw [ocOf_len]; omega, by show (ntOf l3 q).length ≤ _; rw [ntOf_len]; omega, ⟨by show (tdOf l4 q).length ≤ _; rw [tdOf_len]; omega, by show (usOf l4 q).length ≤ _; rw [usOf_len]; omega, by show (icOf l4 q).length ≤ _; rw [icOf_len]; omega⟩⟩)
      ⟨arg_conf', arg_c, arg_gL ⟨argC_c, argC_l (pureR _), argC_l (pureQ _), argC_l (pureU _), argC_c, argC_l (pureN _), argC_c, argC_c, argC_own (by simp) rfl (by rw [List.length_map]; exact (tdOf_len _ _).symm) (pureO _), argC_own (by simp) rfl (by rw [List.length_map]; exact (usOf_len _ _).symm) (pureI _), argC_own (by simp) rfl (by rw [List.length_map]; exact (icOf_len _ _).symm) (pureI _), argC_c, trivial⟩, trivial⟩ (.c _) ?_
     cases f11 : decide (MayK c w (bkOf w v p l1 i l2 j l3 q (audOf (l3.getD (7 * q + 1) 0) (l3.getD (7 * q + 2) 0) l4 q)))
     · simp only [↓wt, wz, reduceAdd, reduceMul, reduceEqDiff, reduceLeDiff, Nat.reduceLT, reduceLE, reduceLT, reduceEq, reduceNe, f11, Cell, Tryz.results8]
       exact exp_kN fun k hk he => of_decide_eq_false f11 (by rw [hkk k hk he]; exact hk)
     · simp only [↓wt, wz, reduceAdd, reduceMul, reduceEqDiff, reduceLeDiff, Nat.reduceLT, reduceLE, reduceLT, reduceEq, reduceNe, f11, Cell, Tryz.results8]
       refine exp_kY (of_decide_eq_true f11) ?_ (xA_g (xL_cons xC_c (xL_cons (xC_pure (.refl _) (.l _ _ (pureR _))) (xL_cons (xC_pure (.refl _) (.l _ _ (pureQ _))) (xL_cons (xC_pure (.refl _) (.l _ _ (pureU _))) (xL_cons xC_c (xL_cons (xC_pure (.refl _) (.l _ _ (pureN _))) (xL_cons xC_c (xL_cons xC_c (xL_cons (xC_frz rfl (by rw [List.length_map, tdOf_len, Nat.zero_add]) rfl (pureO _)) (xL_cons (xC_frz rfl (by rw [List.length_map, usOf_len, Nat.zero_add]) rfl (pureI _)) (xL_cons (xC_frz rfl (by rw [List.length_map, icOf_len, Nat.zero_add]) rfl (pureI _)) (xL_cons xC_c xL_nil)))))))))))))
       have hna : ¬ NoneA (audOf (l3.getD (7 * q + 1) 0) (l3.getD (7 * q + 2) 0) l4 q) := fun h => h00 h.1
       rw [hfo _ rfl rfl, hsum, hb6, h60, audT, if_neg hna, show (audOf (l3.getD (7 * q + 1) 0) (l3.getD (7 * q + 2) 0) l4 q).told.length = q from tdOf_len _ _, triOf_forth (by omega) hq2 hf7, List.append_nil]
 · have f5 : decide (l3.getD (7 * m + 1) 0 = 0) = true := decide_eq_true hy
   · have f6 : decide (l3.getD (7 * m + 2) 0 = 0) = false := decide_eq_false hp
     simp only [↓wt, wz, reduceAdd, reduceMul, reduceEqDiff, reduceLeDiff, Nat.reduceLT, reduceLE, reduceLT, reduceEq, reduceNe, f5, f6, z1, z2]
     refine icall_drop [] m9 ⟨arg_l (pureB _), arg_c, trivial⟩ okR_some ?_
     simp only [↓wt, wz, reduceAdd, reduceMul, reduceEqDiff, reduceLeDiff, Nat.reduceLT, reduceLE, reduceLT, reduceEq, reduceNe, SomeV, Bs, z1, elem_I]
     repeat (refine And.intro (by omega) ?_)
     refine icall_drop [] (rflag_call _) ⟨arg_c, trivial⟩ (.c _) ?_
     cases f7 : decide (l4.getD (3 * m) 0 = 0 ∨ l4.getD (3 * m) 0 = 1)
     · simp only [↓wt, wz, reduceAdd, reduceMul, reduceEqDiff, reduceLeDiff, Nat.reduceLT, reduceLE, reduceLT, reduceEq, reduceNe, f7, Cell, Tryz.results8]
       exact exp_kN fun k hk he => of_decide_eq_false f7 (by rw [← (H6 k hk he).1, tri_end]; exact flag01 _)
     have hf7 := of_decide_eq_true f7
     simp only [↓wt, wz, reduceAdd, reduceMul, reduceEqDiff, reduceLeDiff, Nat.reduceLT, reduceLE, reduceLT, reduceEq, reduceNe, f7]
     refine adopt_cell 3 37 12 _ 8 4 1 rfl rfl ?_
     refine adopt_cell 3 37 12 _ 9 2 1 rfl rfl ?_
     refine adopt_cell 3 37 12 _ 10 2 1 rfl rfl ?_
     refine loop_ruleG tabOk [1, 3, 6, 8, 10, 13, 14] (fun q : Nat => [(19, .c (.int .i64 q))]) (fun q => ⟨[(0, ⟨23, 6, [ConfA c]⟩), (1, ⟨37, 12, [zeroK]⟩), (2, ⟨37, 12, [zeroK]⟩),
      (3, ⟨37, 12, [.g [.c (.int .i64 v), .l 3 (p.map RowV), .l 3 ((rqOf w l1 i).map ReqA), .l 3 ((ocOf w l2 j).map OutA), .c (.int .i64 (l3.getD 0 0)), .l 7 ((ntOf l3 m).map NoteV), .c (.int .i64 (l3.getD (7 * m + 1) 0)), .c (.int .i64 (l3.getD (7 * m + 2) 0)), .s 7 0 q, .s 8 0 q, .s 9 0 q, .c (.bool false)]]⟩),
      (7, ⟨4, 1, (tdOf l4 q).map encO⟩), (8, ⟨2, 1, (usOf l4 q).map encI⟩), (9, ⟨2, 1, (icOf l4 q).map encI⟩)], 10⟩)
      (fun q => q ≤ m ∧ ∀ j, j < q → l4.getD (3 * j) 0 = 0 ∨ l4.getD (3 * j) 0 = 1) (fun q => m - q) 0 ⟨by omega, fun j h => by omega⟩ (fun _ => Nat.le_refl _) ?_ ?_
     · simp only [↓wt, wz, wkf, reduceAdd, reduceMul, reduceEqDiff, reduceLeDiff, Nat.reduceLT, reduceLE, reduceLT, reduceEq, reduceNe, ConfA, zeroK, underL_R, underL_Q, underL_U, underL_N, underL_O, underL_I]
       exact ⟨rfl, rfl, rfl⟩
     rintro q ⟨hq1, hq2⟩
     have e4 := wi_succ (k := q) (by omega)
     have z3 : IntKind.i64.wrap (3 * (q : Int)) = ((3 * q : Nat) : Int) := by rw [wrap_i64 (by omega) (by omega)]; omega
     have z4 : IntKind.i64.wrap (((3 * q : Nat) : Int) + 1) = ((3 * q + 1 : Nat) : Int) := by rw [wrap_i64 (by omega) (by omega)]; omega
     have z5 : IntKind.i64.wrap (((3 * q : Nat) : Int) + 2) = ((3 * q + 2 : Nat) : Int) := by rw [wrap_i64 (by omega) (by omega)]; omega
     have u1 := tdOf_succ l4 q
     have u2 := usOf_succ l4 q
     have u3 := icOf_succ l4 q
     simp only [↓wt, wz, reduceAdd, reduceMul, reduceEqDiff, reduceLeDiff, Nat.reduceLT, reduceLE, reduceLT, reduceEq, reduceNe, ConfA, zeroK]
     cases f8 : decide ((q : Int) < c.n)
     rotate_left
     · have hqm : q < m := by have := of_decide_eq_true f8; omega
       simp only [↓wt, wz, reduceAdd, reduceMul, reduceEqDiff, reduceLeDiff, Nat.reduceLT, reduceLE, reduceLT, reduceEq, reduceNe, f8, z3, elem_I]
       repeat (refine And.intro (by omega) ?_)
       refine icall_drop [] (rflag_call _) ⟨arg_c, trivial⟩ (.c _) ?_
       cases f9 : decide (l4.getD (3 * q) 0 = 0 ∨ l4.getD (3 * q) 0 = 1)
       · simp only [↓wt, wz, reduceAdd, reduceMul, reduceEqDiff, reduceLeDiff, Nat.reduceLT, reduceLE, reduceLT, reduceEq, reduceNe, f9, Cell, Tryz.results8]
         exact exp_kN fun k hk he => of_decide_eq_false f9 (by rw [← (H6 k hk he).1, show 3 * q = 3 * q + 0 from rfl, tri_at _ _ hqm (by decide)]; exact flag01 _)
       simp only [↓wt, wz, reduceAdd, reduceMul, reduceEqDiff, reduceLeDiff, Nat.reduceLT, reduceLE, reduceLT, reduceEq, reduceNe, f9]
       refine draw_rule tabOk mixed [0, 0, 2, 0, 0, 0, 0, 0, 0, 0, 1, 0, 0, 1] [[], [0], [0, 1], [], [], [4], [3, 4, 5], [3, 4, 5, 6], [3, 4, 5, 6, 7], [3, 4, 5, 6, 7, 8], [0, 1, 2, 3, 4, 5, 6, 7, 8, 9], [0, 1, 2, 3, 4, 5, 6, 7, 8, 9, 10], [0, 1, 2, 3, 4, 5, 6, 7, 8, 9, 10, 11], [0, 1, 2, 3, 4, 5, 6, 7, 8, 9, 10, 11, 12]] (by kernel_rfl) ?_
       simp only [↓wt, wz, reduceAdd, reduceMul, reduceEqDiff, reduceLeDiff, Nat.reduceLT, reduceLE, reduceLT, reduceEq, reduceNe, elem_I, z3]
       repeat (refine And.intro (by omega) ?_)
       refine d_heavyX (by simp only [↓wt, wz, reduceAdd, reduceMul, reduceEqDiff, reduceLeDiff, Nat.reduceLT, reduceLE, reduceLT, reduceEq, reduceNe, tdOf_len, Cell]; (repeat (first | refine And.intro (by omega) ?_ | refine And.intro (pureB _) ?_ | refine And.intro (pureI _) ?_ | refine And.intro ⟨pureB _, pureB _⟩ ?_ | refine And.intro ⟨pureB _, pureI _⟩ ?_ | refine And.intro ⟨pureI _, pureB _⟩ ?_ | refine And.intro ⟨pureI _, pureI _⟩ ?_)); exact ⟨rfl, rfl⟩) ?_
       simp only [↓wt, wz, reduceAdd, reduceMul, reduceEqDiff, reduceLeDiff, Nat.reduceLT, reduceLE, reduceLT, reduceEq, reduceNe]
       refine d_heavyX (by simp only [↓wt, wz, reduceAdd, reduceMul, reduceEqDiff, reduceLeDiff, Nat.reduceLT, reduceLE, reduceLT, reduceEq, reduceNe, Cell]; (repeat (first | refine And.intro (by omega) ?_ | refine And.intro (pureB _) ?_ | refine And.intro (pureI _) ?_ | refine And.intro ⟨pureB _, pureB _⟩ ?_ | refine And.intro ⟨pureB _, pureI _⟩ ?_ | refine And.intro ⟨pureI _, pureB _⟩ ?_ | refine And.intro ⟨pureI _, pureI _⟩ ?_)); exact ⟨rfl, rfl⟩) ?_
       simp only [↓wt, wz, reduceAdd, reduceMul, reduceEqDiff, reduceLeDiff, Nat.reduceLT, reduceLE, reduceLT, reduceEq, reduceNe]
       refine draw_rule tabOk mixed [0, 0, 2, 0, 0, 0, 0, 0, 0, 0, 1, 0, 0, 1] [[], [0], [0, 1], [], [], [4], [4, 5], [3, 4, 5, 6], [3, 4, 5, 6, 7], [3, 4, 5, 6, 7, 8], [0, 1, 2, 3, 4, 5, 6, 7, 8, 9], [0, 1, 2, 3, 4, 5, 6, 7, 8, 9, 10], [0, 1, 2, 3, 4, 5, 6, 7, 8, 9, 10, 11], [0, 1, 2, 3, 4, 5, 6, 7, 8, 9, 10, 11, 12]] (by kernel_rfl) ?_
       simp only [↓wt, wz, reduceAdd, reduceMul, reduceEqDiff, reduceLeDiff, Nat.reduceLT, reduceLE, reduceLT, reduceEq, reduceNe, elem_I, z3, z4]
       repeat (refine And.intro (by omega) ?_)
       refine d_heavyX (by simp only [↓wt, wz, reduceAdd, reduceMul, reduceEqDiff, reduceLeDiff, Nat.reduceLT, reduceLE, reduceLT, reduceEq, reduceNe, usOf_len, Cell]; (repeat (first | refine And.intro (by omega) ?_ | refine And.intro (pureB _) ?_ | refine And.intro (pureI _) ?_ | refine And.intro ⟨pureB _, pureB _⟩ ?_ | refine And.intro ⟨pureB _, pureI _⟩ ?_ | refine And.intro ⟨pureI _, pureB _⟩ ?_ | refine And.intro ⟨pureI _, pureI _⟩ ?_)); exact ⟨rfl, rfl⟩) ?_
       simp only [↓wt, wz, reduceAdd, reduceMul, reduceEqDiff, reduceLeDiff, Nat.reduceLT, reduceLE, reduceLT, reduceEq, reduceNe]
       refine d_heavyX (by simp only [↓wt, wz, reduceAdd, reduceMul, reduceEqDiff, reduceLeDiff, Nat.reduceLT, reduceLE, reduceLT, reduceEq, reduceNe, Cell]; (repeat (first | refine And.intro (by omega) ?_ | refine And.intro (pureB _) ?_ | refine And.intro (pureI _) ?_ | refine And.intro ⟨pureB _, pureB _⟩ ?_ | refine And.intro ⟨pureB _, pureI _⟩ ?_ | refine And.intro ⟨pureI _, pureB _⟩ ?_ | refine And.intro ⟨pureI _, pureI _⟩ ?_)); exact ⟨rfl, rfl⟩) ?_
       simp only [↓wt, wz, reduceAdd, reduceMul, reduceEqDiff, reduceLeDiff, Nat.reduceLT, reduceLE, reduceLT, reduceEq, reduceNe]
       refine draw_rule tabOk mixed [0, 0, 2, 0, 0, 0, 0, 0, 0, 0, 1, 0, 0, 1] [[], [0], [0, 1], [], [], [4], [4, 5], [3, 4, 5, 6], [3, 4, 5, 6, 7], [3, 4, 5, 6, 7, 8], [0, 1, 2, 3, 4, 5, 6, 7, 8, 9], [0, 1, 2, 3, 4, 5, 6, 7, 8, 9, 10], [0, 1, 2, 3, 4, 5, 6, 7, 8, 9, 10, 11], [0, 1, 2, 3, 4, 5, 6, 7, 8, 9, 10, 11, 12]] (by kernel_rfl) ?_
       simp only [↓wt, wz, reduceAdd, reduceMul, reduceEqDiff, reduceLeDiff, Nat.reduceLT, reduceLE, reduceLT, reduceEq, reduceNe, elem_I, z3, z5]
       repeat (refine And.intro (by omega) ?_)
       refine d_heavyX (by simp only [↓wt, wz, reduceAdd, reduceMul, reduceEqDiff, reduceLeDiff, Nat.reduceLT, reduceLE, reduceLT, reduceEq, reduceNe, icOf_len, Cell]; (repeat (first | refine And.intro (by omega) ?_ | refine And.intro (pureB _) ?_ | refine And.intro (pureI _) ?_ | refine And.intro ⟨pureB _, pureB _⟩ ?_ | refine And.intro ⟨pureB _, pureI _⟩ ?_ | refine And.intro ⟨pureI _, pureB _⟩ ?_ | refine And.intro ⟨pureI _, pureI _⟩ ?_)); exact ⟨rfl, rfl⟩) ?_
       simp only [↓wt, wz, reduceAdd, reduceMul, reduceEqDiff, reduceLeDiff, Nat.reduceLT, reduceLE, reduceLT, reduceEq, reduceNe]
       refine d_heavyX (by simp only [↓wt, wz, reduceAdd, reduceMul, reduceEqDiff, reduceLeDiff, Nat.reduceLT, reduceLE, reduceLT, reduceEq, reduceNe, Cell]; (repeat (first | refine And.intro (by omega) ?_ | refine And.intro (pureB _) ?_ | refine And.intro (pureI _) ?_ | refine And.intro ⟨pureB _, pureB _⟩ ?_ | refine And.intro ⟨pureB _, pureI _⟩ ?_ | refine And.intro ⟨pureI _, pureB _⟩ ?_ | refine And.intro ⟨pureI _, pureI _⟩ ?_)); exact ⟨rfl, rfl⟩) ?_
       simp only [↓wt, wz, reduceAdd, reduceMul, reduceEqDiff, reduceLeDiff, Nat.reduceLT, reduceLE, reduceLT, reduceEq, reduceNe, e4]
       refine ⟨q + 1, ⟨by omega, fun j hj => ?_⟩, by omega, ?_⟩
       · rcases Nat.lt_or_ge j q with h | h
         · exact hq2 j h
         · have : j = q := by omega
           subst this
           exact of_decide_eq_true f9
       simp only [↓wt, wz, wkf, reduceAdd, reduceMul, reduceEqDiff, reduceLeDiff, Nat.reduceLT, reduceLE, reduceLT, reduceEq, reduceNe, e4, u1, u2, u3, ConfA, zeroK, underL_R, underL_Q, underL_U, underL_N, underL_O, underL_I, List.map_append]
       have hul1 := underL_O (k := 10) (l := tdOf l4 q ++ [decide (l4.getD (3 * q) 0 = 1)])
       have hul2 := underL_I (k := 10) (l := usOf l4 q ++ [l4.getD (3 * q + 1) 0])
       have hul3 := underL_I (k := 10) (l := icOf l4 q ++ [l4.getD (3 * q + 2) 0])
       rw [List.map_append] at hul1 hul2 hul3
       exact ⟨⟨rfl, hul1.mpr trivial⟩, hul2.mpr trivial, hul3.mpr trivial⟩
     have hqm : q = m := by have := of_decide_eq_false f8; omega
     subst hqm
     simp only [↓wt, wz, reduceAdd, reduceMul, reduceEqDiff, reduceLeDiff, Nat.reduceLT, reduceLE, reduceLT, reduceEq, reduceNe, f8, z1, elem_I, Cell]
     repeat (refine And.intro (by omega) ?_)
     have hK : bkOf w v p l1 i l2 j l3 q (audOf (l3.getD (7 * q + 1) 0) (l3.getD (7 * q + 2) 0) l4 q) = ⟨v, p, rqOf w l1 i, ocOf w l2 j, l3.getD 0 0, ntOf l3 q, ⟨l3.getD (7 * q + 1) 0, l3.getD (7 * q + 2) 0, tdOf l4 q, usOf l4 q, icOf l4 q, decide (l4.getD (3 * q) 0 = 1)⟩⟩ := rfl
     have hkk : ∀ k, MayK c w k → encBk k = s → bkOf w v p l1 i l2 j l3 q (audOf (l3.getD (7 * q + 1) 0) (l3.getD (7 * q + 2) 0) l4 q) = k := fun k hk he => by rw [(H6 k hk he).2.2]; exact (hcl k hk he).1.1
     cases f10 : decide ((r6.length : Int) > 0)
     rotate_left
     · simp only [↓wt, wz, reduceAdd, reduceMul, reduceEqDiff, reduceLeDiff, Nat.reduceLT, reduceLE, reduceLT, reduceEq, reduceNe, f10, Cell, Tryz.results8]
       exact exp_kN fun k hk he => by have := (H6 k hk he).2.1; have := of_decide_eq_true f10; simp_all
     have h60 : r6 = [] := List.length_eq_zero_iff.1 (by have := of_decide_eq_false f10; omega)
     simp only [↓wt, wz, reduceAdd, reduceMul, reduceEqDiff, reduceLeDiff, Nat.reduceLT, reduceLE, reduceLT, reduceEq, reduceNe, f10]
     refine icall_keep [7, 8, 9] (rbkmay_call c w (bkOf w v p l1 i l2 j l3 q (audOf (l3.getD (7 * q + 1) 0) (l3.getD (7 * q + 2) 0) l4 q)) ⟨hlens, by show (rqOf w l1 i).length ≤ _; rw [rqOf_len]; omega, by show (ocOf w l2 j).length ≤ _; rw [ocOf_len]; omega, by show (ntOf l3 q).length ≤ _; rw [ntOf_len]; omega, ⟨by show (tdOf l4 q).length ≤ _; rw [tdOf_len]; omega, by show (usOf l4 q).length ≤ _; rw [usOf_len]; omega, by show (icOf l4 q).length ≤ _; rw [icOf_len]; omega⟩⟩)
      ⟨arg_conf', arg_c, arg_gL ⟨argC_c, argC_l (pureR _), argC_l (pureQ _), argC_l (pureU _), argC_c, argC_l (pureN _), argC_c, argC_c, argC_own (by simp) rfl (by rw [List.length_map]; exact (tdOf_len _ _).symm) (pureO _), argC_own (by simp) rfl (by rw [List.length_map]; exact (usOf_len _ _).symm) (pureI _), argC_own (by simp) rfl (by rw [List.length_map]; exact (icOf_len _ _).symm) (pureI _), argC_c, trivial⟩, trivial⟩ (.c _) ?_
     cases f11 : decide (MayK c w (bkOf w v p l1 i l2 j l3 q (audOf (l3.getD (7 * q + 1) 0) (l3.getD (7 * q + 2) 0) l4 q)))
     · simp only [↓wt, wz, reduceAdd, reduceMul, reduceEqDiff, reduceLeDiff, Nat.reduceLT, reduceLE, reduceLT, reduceEq, reduceNe, f11, Cell, Tryz.results8]
       exact exp_kN fun k hk he => of_decide_eq_false f11 (by rw [hkk k hk he]; exact hk)
     · simp only [↓wt, wz, reduceAdd, reduceMul, reduceEqDiff, reduceLeDiff, Nat.reduceLT, reduceLE, reduceLT, reduceEq, reduceNe, f11, Cell, Tryz.results8]
       refine exp_kY (of_decide_eq_true f11) ?_ (xA_g (xL_cons xC_c (xL_cons (xC_pure (.refl _) (.l _ _ (pureR _))) (xL_cons (xC_pure (.refl _) (.l _ _ (pureQ _))) (xL_cons (xC_pure (.refl _) (.l _ _ (pureU _))) (xL_cons xC_c (xL_cons (xC_pure (.refl _) (.l _ _ (pureN _))) (xL_cons xC_c (xL_cons xC_c (xL_cons (xC_frz rfl (by rw [List.length_map, tdOf_len, Nat.zero_add]) rfl (pureO _)) (xL_cons (xC_frz rfl (by rw [List.length_map, usOf_len, Nat.zero_add]) rfl (pureI _)) (xL_cons (xC_frz rfl (by rw [List.length_map, icOf_len, Nat.zero_add]) rfl (pureI _)) (xL_cons xC_c xL_nil)))))))))))))
       have hna : ¬ NoneA (audOf (l3.getD (7 * q + 1) 0) (l3.getD (7 * q + 2) 0) l4 q) := fun h => h00 h.1
       rw [hfo _ rfl rfl, hsum, hb6, h60, audT, if_neg hna, show (audOf (l3.getD (7 * q + 1) 0) (l3.getD (7 * q + 2) 0) l4 q).told.length = q from tdOf_len _ _, triOf_forth (by omega) hq2 hf7, List.append_nil]
end Go.Ab
