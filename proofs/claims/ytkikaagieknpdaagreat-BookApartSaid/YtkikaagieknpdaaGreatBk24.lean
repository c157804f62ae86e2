/- Books: the document's: may it be a line, may it be a book. -/
import Derived.Test.YtkikaagieknpdaaGreatTBk8
import Derived.Test.YtkikaagieknpdaaGreatTCl4
import Derived.Test.YtkikaagieknpdaaGreatAd8
import Derived.Test.YtkikaagieknpdaaGreatTRt2
set_option linter.unusedSimpArgs false
set_option linter.unusedVariables false
set_option linter.constructorNameAsVariable false
set_option maxRecDepth 100000
open Nat (reduceAdd reduceMul reduceEqDiff reduceLeDiff)
open Int (reduceLE reduceLT reduceEq reduceNe)
namespace Go.Ab
open Go Go.Proofs Go.RowKit
theorem rlone_call (c : Conf) (who : Int) (x : ReqD) : PCall Tryz.prog 91 [ConfA c, .c (.int .i64 who), ReqA x] (.c (.bool (decide (OneQ c who x)))) := by
 refine pcall_body tabOk Tryz.func91 rfl rfl (by rw [Tryz.ntmps91]; simp) ?_
 simp only [Tryz.ntmps91, ConfA, ReqA]
 simp only [↓wt, wz, reduceAdd, reduceMul, reduceEqDiff, reduceLeDiff, Nat.reduceLT, reduceLE, reduceLT, reduceEq, reduceNe]
 refine icall_drop [] (rstmay_call x.t x.w c.n) ⟨arg_st, arg_c, trivial⟩ (.c _) ?_
 cases e1 : decide (MaySt x.t x.w c.n)
 · simp only [↓wt, wz, reduceAdd, reduceMul, reduceEqDiff, reduceLeDiff, Nat.reduceLT, reduceLE, reduceLT, reduceEq, reduceNe, e1, Tryz.results91]
   exact exp_bF (p := OneQ c who x) fun h => of_decide_eq_false e1 h.1.1
 simp only [↓wt, wz, reduceAdd, reduceMul, reduceEqDiff, reduceLeDiff, Nat.reduceLT, reduceLE, reduceLT, reduceEq, reduceNe, e1]
 cases e2 : decide (x.w = who)
 · simp only [↓wt, wz, reduceAdd, reduceMul, reduceEqDiff, reduceLeDiff, Nat.reduceLT, reduceLE, reduceLT, reduceEq, reduceNe, e2, Tryz.results91]
   exact exp_bF (p := OneQ c who x) fun h => of_decide_eq_false e2 h.1.2
 simp only [↓wt, wz, reduceAdd, reduceMul, reduceEqDiff, reduceLeDiff, Nat.reduceLT, reduceLE, reduceLT, reduceEq, reduceNe, e2]
 cases e3 : decide (x.a ≥ 1)
 · simp only [↓wt, wz, reduceAdd, reduceMul, reduceEqDiff, reduceLeDiff, Nat.reduceLT, reduceLE, reduceLT, reduceEq, reduceNe, e3, Tryz.results91]
   exact exp_bF (p := OneQ c who x) fun h => of_decide_eq_false e3 h.2.1
 simp only [↓wt, wz, reduceAdd, reduceMul, reduceEqDiff, reduceLeDiff, Nat.reduceLT, reduceLE, reduceLT, reduceEq, reduceNe, e3, Tryz.results91]
 exact exp_bE ⟨fun h => ⟨⟨of_decide_eq_true e1, of_decide_eq_true e2⟩, of_decide_eq_true e3, h⟩, fun h => h.2.2⟩
set_option maxHeartbeats 4000000 in
theorem rlmay_call (c : Conf) (who : Int) (l : List ReqD) (hl : l.length ≤ 1000000000) : PCall Tryz.prog 52 [ConfA c, .c (.int .i64 who), .l 3 (l.map ReqA)] (.c (.bool (decide (MayL c who l)))) := by
 refine pcall_body tabOk Tryz.func52 rfl rfl (by rw [Tryz.ntmps52]; simp) ?_
 simp only [Tryz.ntmps52, ConfA]
 simp only [↓wt, wz, reduceAdd, reduceMul, reduceEqDiff, reduceLeDiff, Nat.reduceLT, reduceLE, reduceLT, reduceEq, reduceNe]
 refine icall_drop [] (rrtmay_call c) ⟨arg_conf', trivial⟩ (.c _) ?_
 simp only [↓wt, wz, reduceAdd, reduceMul, reduceEqDiff, reduceLeDiff, Nat.reduceLT, reduceLE, reduceLT, reduceEq, reduceNe]
 repeat' (first | ((first | refine r_casesD (fun hp hb => ?_) (fun hp hb => ?_) | refine r_casesN (fun hp hb => ?_) (fun hp hb => ?_) | refine r_casesM (fun hp hb => ?_) (fun hp hb => ?_) | refine r_casesB (fun hp hb => ?_) (fun hp hb => ?_) | refine r_gcasesD (fun hp hb => ?_) (fun hp hb => ?_) | refine r_gcasesN (fun hp hb => ?_) (fun hp hb => ?_) | refine r_gcasesM (fun hp hb => ?_) (fun hp hb => ?_) | refine r_gcasesB (fun hp hb => ?_) (fun hp hb => ?_)) <;> simp only [↓wt, wz, reduceAdd, reduceMul, reduceEqDiff, reduceLeDiff, Nat.reduceLT, reduceLE, reduceLT, reduceEq, reduceNe, Tryz.results52, hb]) | ((with_reducible refine And.intro ?_ ?_); omega) | fail)
 all_goals first | exact exp_bF (p := MayL c who l) (fun h => by obtain ⟨⟨g1, g4⟩, g2, g3⟩ := h; unfold There at g4; first | omega | contradiction) | skip
 have ht : ThereC c who := ⟨by assumption, by unfold There; omega⟩
 have hql : (l.length : Int) ≤ c.q := by omega
 refine freeze_rule 0 [1, 2, 3, 7] (by simp only [↓wt, wz, reduceAdd, reduceMul, reduceEqDiff, reduceLeDiff, Nat.reduceLT, reduceLE, reduceLT, reduceEq, reduceNe, underL_Q]; (try (repeat' (first | (exact fun _ => by simp only [pureL_eq, underL_cons, underL_nil, AV.cells, under_l, under_c, under_g, under_e, under_f, underL_B, underL_I, underL_Bs, under_Bs, List.mem_cons, List.not_mem_nil, or_false, forall_eq_or_imp, forall_eq, and_self, and_true, true_and, underL_Q]) | ((with_reducible refine And.intro ?_ ?_)) | (intro _) | omega | (simp only [pureL_eq, underL_cons, underL_nil, AV.cells, under_l, under_c, under_g, under_e, under_f, underL_B, underL_I, underL_Bs, under_Bs, List.mem_cons, List.not_mem_nil, or_false, forall_eq_or_imp, forall_eq, and_self, and_true, true_and, underL_Q])))); done) (by simp only [↓wt, wz, reduceAdd, reduceMul, reduceEqDiff, reduceLeDiff, Nat.reduceLT, reduceLE, reduceLT, reduceEq, reduceNe, underL_Q]; (try (repeat' (first | (exact fun _ => by simp only [pureL_eq, underL_cons, underL_nil, AV.cells, under_l, under_c, under_g, under_e, under_f, underL_B, underL_I, underL_Bs, under_Bs, List.mem_cons, List.not_mem_nil, or_false, forall_eq_or_imp, forall_eq, and_self, and_true, true_and, underL_Q]) | ((with_reducible refine And.intro ?_ ?_)) | (intro _) | omega | (simp only [pureL_eq, underL_cons, underL_nil, AV.cells, under_l, under_c, under_g, under_e, under_f, underL_B, underL_I, underL_Bs, under_Bs, List.mem_cons, List.not_mem_nil, or_false, forall_eq_or_imp, forall_eq, and_self, and_true, true_and, underL_Q])))); done) ?_; simp only [↓wt, wz, reduceAdd, reduceMul, reduceEqDiff, reduceLeDiff, Nat.reduceLT, reduceLE, reduceLT, reduceEq, reduceNe, underL_Q]
 refine loop_ruleC tabOk [1, 2, 3] (fun k : Nat => [(7, .c (.int .i64 k))]) (fun k => k ≤ l.length ∧ ∀ j, j < k → LineOk c who l j) (fun k => l.length - k) 0 ⟨by omega, fun j h => by omega⟩ ?_ ?_
 · simp only [↓wt, wz, wkf, reduceAdd, reduceMul, reduceEqDiff, reduceLeDiff, Nat.reduceLT, reduceLE, reduceLT, reduceEq, reduceNe, underL_Q, under_e]
   try trivial
 · rintro k ⟨hk, hG⟩
   simp only [↓wt, wz, reduceAdd, reduceMul, reduceEqDiff, reduceLeDiff, Nat.reduceLT, reduceLE, reduceLT, reduceEq, reduceNe]
   repeat' (first | ((first | refine r_casesD (fun hp hb => ?_) (fun hp hb => ?_) | refine r_casesN (fun hp hb => ?_) (fun hp hb => ?_) | refine r_casesM (fun hp hb => ?_) (fun hp hb => ?_) | refine r_casesB (fun hp hb => ?_) (fun hp hb => ?_) | refine r_gcasesD (fun hp hb => ?_) (fun hp hb => ?_) | refine r_gcasesN (fun hp hb => ?_) (fun hp hb => ?_) | refine r_gcasesM (fun hp hb => ?_) (fun hp hb => ?_) | refine r_gcasesB (fun hp hb => ?_) (fun hp hb => ?_)) <;> simp only [↓wt, wz, reduceAdd, reduceMul, reduceEqDiff, reduceLeDiff, Nat.reduceLT, reduceLE, reduceLT, reduceEq, reduceNe, hb]) | ((with_reducible refine And.intro ?_ ?_); omega) | fail)
   · have hkl : k < l.length := by omega
     have e3 := wi_succ (k := k) (by omega)
     refine draw_rule tabOk mixed [0, 0, 0, 0, 0, 0, 1, 0, 0, 0, 0, 0, 0, 0, 0, 0, 0, 0, 0, 0, 0, 0, 0, 1, 0, 0, 0] [[], [], [], [], [2, 3], [2, 3, 4], [0, 1, 2, 3, 4, 5], [0, 1, 2, 3, 4, 5, 6], [0, 1, 2, 3, 4, 5, 6, 7], [0, 1, 2, 3, 4, 5, 6, 7, 8], [0, 1, 2, 3, 4, 5, 6, 7, 8, 9], [0, 1, 2, 3, 4, 5, 6, 7, 8, 9, 10], [0, 1, 2, 3, 4, 5, 6, 7, 8, 9, 10, 11], [0, 1, 2, 3, 4, 5, 6, 7, 8, 9, 10, 11], [0, 1, 2, 3, 4, 5, 6, 7, 8, 9, 10, 11, 13], [0, 1, 2, 3, 4, 5, 6, 7, 8, 9, 10, 11, 12, 13, 14], [0, 1, 2, 3, 4, 5, 6, 7, 8, 9, 10, 11, 12, 13, 14, 15], [0, 1, 2, 3, 4, 5, 6, 7, 8, 9, 10, 11, 12, 13, 14, 15, 16], [0, 1, 2, 3, 4, 5, 6, 7, 8, 9, 10, 11], [0, 1, 2, 3, 4, 5, 6, 7, 8, 9, 10, 11], [0, 1, 2, 3, 4, 5, 6, 7, 8, 9, 10, 11, 18, 19], [0, 1, 2, 3, 4, 5, 6, 7, 8, 9, 10, 11, 18, 19, 20], [0, 1, 2, 3, 4, 5, 6, 7, 8, 9, 10, 11, 18, 19, 20, 21], [0, 1, 2, 3, 4, 5, 6, 7, 8, 9, 10, 11, 12, 13, 14, 15, 16, 17, 18, 19, 20, 21, 22], [0, 1, 2, 3, 4, 5, 6, 7, 8, 9, 10, 11, 12, 13, 14, 15, 16, 17, 18, 19, 20, 21, 22, 23], [0, 1, 2, 3, 4, 5, 6, 7, 8, 9, 10, 11, 12, 13, 14, 15, 16, 17, 18, 19, 20, 21, 22, 23, 24], [0, 1, 2, 3, 4, 5, 6, 7, 8, 9, 10, 11, 12, 13, 14, 15, 16, 17, 18, 19, 20, 21, 22, 23, 24, 25]] (by kernel_rfl) ?_
     simp (maxSteps := 10000000) only [↓wt, wz, reduceAdd, reduceMul, reduceEqDiff, reduceLeDiff, Nat.reduceLT, reduceLE, reduceLT, reduceEq, reduceNe, elem_Q, ReqA_eq]
     repeat (refine And.intro (by omega) ?_)
     refine d_heavyC (icall_drop [] (rlone_call c who (reqAt l k)) ⟨arg_conf', arg_c, arg_pure ⟨argC_c, argC_c, argC_c, trivial⟩, trivial⟩ (.c _) ⟨rfl, rfl⟩) ?_
     cases e1 : decide (OneQ c who (reqAt l k))
     · simp (maxSteps := 10000000) only [↓wt, wz, reduceAdd, reduceMul, reduceEqDiff, reduceLeDiff, Nat.reduceLT, reduceLE, reduceLT, reduceEq, reduceNe, e1, elem_Q, ReqA_eq, Tryz.results52]
       exact exp_bF (p := MayL c who l) fun h => of_decide_eq_false e1 (h.2.2 k hkl).1
     cases e2 : decide ((k : Int) > 0)
     · simp (maxSteps := 10000000) only [↓wt, wz, reduceAdd, reduceMul, reduceEqDiff, reduceLeDiff, Nat.reduceLT, reduceLE, reduceLT, reduceEq, reduceNe, e1, e2, e3, elem_Q, ReqA_eq]
       refine ⟨k + 1, ⟨by omega, fun j hj => ?_⟩, by omega, ?_⟩
       · rcases Nat.lt_or_ge j k with h | h
         · exact hG j h
         · have : j = k := by omega
           subst this
           exact ⟨of_decide_eq_true e1, fun h => absurd (of_decide_eq_false e2) (by omega)⟩
       · simp only [↓wt, wz, wkf, reduceAdd, reduceMul, reduceEqDiff, reduceLeDiff, Nat.reduceLT, reduceLE, reduceLT, reduceEq, reduceNe, e3, underL_Q, under_e]
         try trivial
     have h3 : 0 < k := by have := of_decide_eq_true e2; omega
     have e4 : IntKind.i64.wrap ((k : Int) - 1) = ((k - 1 : Nat) : Int) := by rw [IntKind.wrap_i64]; omega
     simp (maxSteps := 10000000) only [↓wt, wz, reduceAdd, reduceMul, reduceEqDiff, reduceLeDiff, Nat.reduceLT, reduceLE, reduceLT, reduceEq, reduceNe, e1, e2, e4, elem_Q, ReqA_eq]
     repeat (refine And.intro (by omega) ?_)
     refine d_heavyC (icall_drop [] (rolder_call _ _ _ _) ⟨arg_st, arg_st, trivial⟩ (.c _) ⟨rfl, rfl⟩) ?_
     cases e5 : decide (Old (reqAt l (k - 1)).t (reqAt l (k - 1)).w (reqAt l k).t (reqAt l k).w)
     · simp (maxSteps := 10000000) only [↓wt, wz, reduceAdd, reduceMul, reduceEqDiff, reduceLeDiff, Nat.reduceLT, reduceLE, reduceLT, reduceEq, reduceNe, e1, e2, e5, elem_Q, ReqA_eq, Tryz.results52]
       exact exp_bF (p := MayL c who l) fun h => of_decide_eq_false e5 ((h.2.2 k hkl).2 h3)
     · simp (maxSteps := 10000000) only [↓wt, wz, reduceAdd, reduceMul, reduceEqDiff, reduceLeDiff, Nat.reduceLT, reduceLE, reduceLT, reduceEq, reduceNe, e1, e2, e3, e5, elem_Q, ReqA_eq]
       refine ⟨k + 1, ⟨by omega, fun j hj => ?_⟩, by omega, ?_⟩
       · rcases Nat.lt_or_ge j k with h | h
         · exact hG j h
         · have : j = k := by omega
           subst this
           exact ⟨of_decide_eq_true e1, fun _ => of_decide_eq_true e5⟩
       · simp only [↓wt, wz, wkf, reduceAdd, reduceMul, reduceEqDiff, reduceLeDiff, Nat.reduceLT, reduceLE, reduceLT, reduceEq, reduceNe, e3, underL_Q, under_e]
         try trivial
   · simp only [↓wt, wz, reduceAdd, reduceMul, reduceEqDiff, reduceLeDiff, Nat.reduceLT, reduceLE, reduceLT, reduceEq, reduceNe, Tryz.results52]
     exact exp_bT (p := MayL c who l) ⟨ht, hql, fun j hj => hG j (by omega)⟩
theorem any_falseR {l : List ReqD} {ck : Int} (h : ∀ j, j < l.length → (reqAt l j).t ≤ ck) : l.any (fun x => decide (x.t > ck)) = false := by
 refine List.any_eq_false.2 fun x hx => ?_
 obtain ⟨i, hi, rfl⟩ := List.getElem_of_mem hx
 have := h i hi
 rw [reqAt, List.getD_eq_getElem?_getD, List.getElem?_eq_getElem hi, Option.getD_some] at this
 simp only [decide_eq_true_eq]; omega
theorem any_falseR' {l : List ReqD} {ck : Int} {j : Nat} (h : l.any (fun x => decide (x.t > ck)) = false) (hj : j < l.length) : (reqAt l j).t ≤ ck := by
 have := List.any_eq_false.1 h (reqAt l j) (by rw [reqAt, List.getD_eq_getElem?_getD, List.getElem?_eq_getElem hj]; exact List.getElem_mem hj)
 simp only [decide_eq_true_eq] at this; omega
theorem any_falseU {l : List OutD} {c : Conf} {who ck : Int} (h : ∀ j, j < l.length → OutOk c who ck (outAt l j)) : l.any (fun x => decide (¬ OutOk c who ck x)) = false := by
 refine List.any_eq_false.2 fun x hx => ?_
 obtain ⟨i, hi, rfl⟩ := List.getElem_of_mem hx
 have := h i hi
 rw [outAt, List.getD_eq_getElem?_getD, List.getElem?_eq_getElem hi, Option.getD_some] at this
 simp only [decide_eq_true_eq]; exact fun hn => hn this
theorem any_falseU' {l : List OutD} {c : Conf} {who ck : Int} {j : Nat} (h : l.any (fun x => decide (¬ OutOk c who ck x)) = false) (hj : j < l.length) : OutOk c who ck (outAt l j) := by
 have := List.any_eq_false.1 h (outAt l j) (by rw [outAt, List.getD_eq_getElem?_getD, List.getElem?_eq_getElem hj]; exact List.getElem_mem hj)
 simpa using this
theorem may_end {c : Conf} {who : Int} {k : BookD} (h : MayA c who k.a) : (k.a.told.length = 0) = NoneA k.a := by
 refine propext ⟨fun h0 => ?_, fun h0 => h0.2.1⟩
 rcases h.2 with h1 | h1
 · exact h1
 · have := h1.2.1.1
   have hm := h.1.1
   unfold MayC at hm; omega
set_option maxHeartbeats 8000000 in
theorem rbkmay_call (c : Conf) (who : Int) (k : BookD) (hl : BLens k) : PCall Tryz.prog 14 [ConfA c, .c (.int .i64 who), BookV k] (.c (.bool (decide (MayK c who k)))) := by
 obtain ⟨hl1, hl2, hl3, hl4, hl5⟩ := hl
 refine pcall_body tabOk Tryz.func14 rfl rfl (by rw [Tryz.ntmps14]; simp) ?_
 simp only [Tryz.ntmps14, ConfA, BookV]
 simp only [↓wt, wz, reduceAdd, reduceMul, reduceEqDiff, reduceLeDiff, Nat.reduceLT, reduceLE, reduceLT, reduceEq, reduceNe]
 refine icall_drop [] (rright_call c k.r hl1) ⟨arg_conf', arg_l (pureR _), trivial⟩ (.c _) ?_
 cases e1 : decide (RightB c k.r)
 · simp only [↓wt, wz, reduceAdd, reduceMul, reduceEqDiff, reduceLeDiff, Nat.reduceLT, reduceLE, reduceLT, reduceEq, reduceNe, e1, Tryz.results14]
   exact exp_bF (p := MayK c who k) fun h => of_decide_eq_false e1 h.2.2.1
 simp only [↓wt, wz, reduceAdd, reduceMul, reduceEqDiff, reduceLeDiff, Nat.reduceLT, reduceLE, reduceLT, reduceEq, reduceNe, e1]
 have hm : MayC c := (of_decide_eq_true e1).1
 cases e2 : decide (who < 0)
 rotate_left
 · simp only [↓wt, wz, reduceAdd, reduceMul, reduceEqDiff, reduceLeDiff, Nat.reduceLT, reduceLE, reduceLT, reduceEq, reduceNe, e2, Tryz.results14]
   exact exp_bF (p := MayK c who k) fun h => by have := of_decide_eq_true e2; have := h.1.2; unfold There at this; omega
 simp only [↓wt, wz, reduceAdd, reduceMul, reduceEqDiff, reduceLeDiff, Nat.reduceLT, reduceLE, reduceLT, reduceEq, reduceNe, e2]
 cases e3 : decide (who ≥ c.n)
 rotate_left
 · simp only [↓wt, wz, reduceAdd, reduceMul, reduceEqDiff, reduceLeDiff, Nat.reduceLT, reduceLE, reduceLT, reduceEq, reduceNe, e3, Tryz.results14]
   exact exp_bF (p := MayK c who k) fun h => by have := of_decide_eq_true e3; have := h.1.2; unfold There at this; omega
 simp only [↓wt, wz, reduceAdd, reduceMul, reduceEqDiff, reduceLeDiff, Nat.reduceLT, reduceLE, reduceLT, reduceEq, reduceNe, e3]
 cases e4 : decide (k.ck < 0)
 rotate_left
 · simp only [↓wt, wz, reduceAdd, reduceMul, reduceEqDiff, reduceLeDiff, Nat.reduceLT, reduceLE, reduceLT, reduceEq, reduceNe, e4, Tryz.results14]
   exact exp_bF (p := MayK c who k) fun h => by have := of_decide_eq_true e4; have := h.2.1; omega
 simp only [↓wt, wz, reduceAdd, reduceMul, reduceEqDiff, reduceLeDiff, Nat.reduceLT, reduceLE, reduceLT, reduceEq, reduceNe, e4]
 cases e5 : decide (k.ck > 1125899906842624)
 rotate_left
 · simp only [↓wt, wz, reduceAdd, reduceMul, reduceEqDiff, reduceLeDiff, Nat.reduceLT, reduceLE, reduceLT, reduceEq, reduceNe, e5, Tryz.results14]
   exact exp_bF (p := MayK c who k) fun h => by have := of_decide_eq_true e5; have := h.2.1; omega
 simp only [↓wt, wz, reduceAdd, reduceMul, reduceEqDiff, reduceLeDiff, Nat.reduceLT, reduceLE, reduceLT, reduceEq, reduceNe, e5]
 have ht : ThereC c who := ⟨hm, by have := of_decide_eq_false e2; have := of_decide_eq_false e3; unfold There; omega⟩
 refine icall_drop [] (rlmay_call c who k.l hl2) ⟨arg_conf', arg_c, arg_l (pureQ _), trivial⟩ (.c _) ?_
 cases e6 : decide (MayL c who k.l)
 · simp only [↓wt, wz, reduceAdd, reduceMul, reduceEqDiff, reduceLeDiff, Nat.reduceLT, reduceLE, reduceLT, reduceEq, reduceNe, e6, Tryz.results14]
   exact exp_bF (p := MayK c who k) fun h => of_decide_eq_false e6 h.2.2.2.1
 have e0 : IntKind.i64.wrap (c.q + 1) = c.q + 1 := int_add (by unfold MayC at hm; omega) (by unfold MayC at hm; omega)
 simp only [↓wt, wz, reduceAdd, reduceMul, reduceEqDiff, reduceLeDiff, Nat.reduceLT, reduceLE, reduceLT, reduceEq, reduceNe, e6, e0]
 cases e7 : decide ((k.o.length : Int) > c.q + 1)
 rotate_left
 · simp only [↓wt, wz, reduceAdd, reduceMul, reduceEqDiff, reduceLeDiff, Nat.reduceLT, reduceLE, reduceLT, reduceEq, reduceNe, e7, Tryz.results14]
   exact exp_bF (p := MayK c who k) fun h => by have := of_decide_eq_true e7; have := h.2.2.2.2.1; omega
 simp only [↓wt, wz, reduceAdd, reduceMul, reduceEqDiff, reduceLeDiff, Nat.reduceLT, reduceLE, reduceLT, reduceEq, reduceNe, e7]
 cases e9 : decide (k.k < 0)
 rotate_left
 · simp only [↓wt, wz, reduceAdd, reduceMul, reduceEqDiff, reduceLeDiff, Nat.reduceLT, reduceLE, reduceLT, reduceEq, reduceNe, e9, Tryz.results14]
   exact exp_bF (p := MayK c who k) fun h => by have := of_decide_eq_true e9; have := h.2.2.2.2.2.2.2.1; omega
 simp only [↓wt, wz, reduceAdd, reduceMul, reduceEqDiff, reduceLeDiff, Nat.reduceLT, reduceLE, reduceLT, reduceEq, reduceNe, e9]
 cases e10 : decide (k.k > c.r)
 rotate_left
 · simp only [↓wt, wz, reduceAdd, reduceMul, reduceEqDiff, reduceLeDiff, Nat.reduceLT, reduceLE, reduceLT, reduceEq, reduceNe, e10, Tryz.results14]
   exact exp_bF (p := MayK c who k) fun h => by have := of_decide_eq_true e10; have := h.2.2.2.2.2.2.2.1; omega
 simp only [↓wt, wz, reduceAdd, reduceMul, reduceEqDiff, reduceLeDiff, Nat.reduceLT, reduceLE, reduceLT, reduceEq, reduceNe, e10]
 refine loop_ruleC tabOk [1, 3, 5] (fun i : Nat => [(7, .c (.int .i64 i))]) (fun i => i ≤ k.l.length ∧ ∀ j, j < i → (reqAt k.l j).t ≤ k.ck) (fun i => k.l.length - i) 0 ⟨by omega, fun j h => by omega⟩ ?_ ?_
 · simp only [↓wt, wz, wkf, reduceAdd, reduceMul, reduceEqDiff, reduceLeDiff, Nat.reduceLT, reduceLE, reduceLT, reduceEq, reduceNe, underL_R, underL_Q, underL_U, underL_N, underL_O, underL_I]
   try trivial
 · rintro i ⟨hi, hG⟩
   simp only [↓wt, wz, reduceAdd, reduceMul, reduceEqDiff, reduceLeDiff, Nat.reduceLT, reduceLE, reduceLT, reduceEq, reduceNe]
   repeat' (first | ((first | refine r_casesD (fun hp hb => ?_) (fun hp hb => ?_) | refine r_casesN (fun hp hb => ?_) (fun hp hb => ?_) | refine r_casesM (fun hp hb => ?_) (fun hp hb => ?_) | refine r_casesB (fun hp hb => ?_) (fun hp hb => ?_) | refine r_gcasesD (fun hp hb => ?_) (fun hp hb => ?_) | refine r_gcasesN (fun hp hb => ?_) (fun hp hb => ?_) | refine r_gcasesM (fun hp hb => ?_) (fun hp hb => ?_) | refine r_gcasesB (fun hp hb => ?_) (fun hp hb => ?_)) <;> simp only [↓wt, wz, reduceAdd, reduceMul, reduceEqDiff, reduceLeDiff, Nat.reduceLT, reduceLE, reduceLT, reduceEq, reduceNe, hb]) | ((with_reducible refine And.intro ?_ ?_); omega) | fail)
   · have hil : i < k.l.length := by omega
     have e3' := wi_succ (k := i) (by omega)
     refine draw_rule tabOk mixed [0, 2, 0, 2, 0, 0, 2, 0, 2, 0] [[], [0], [], [0, 1, 2], [0, 1, 2, 3], [0, 1, 2, 3, 4], [0, 1, 2, 3, 4, 5], [], [7], [0, 1, 2, 3, 4, 5, 6, 7, 8]] (by kernel_rfl) ?_
     simp only [↓wt, wz, reduceAdd, reduceMul, reduceEqDiff, reduceLeDiff, Nat.reduceLT, reduceLE, reduceLT, reduceEq, reduceNe, elem_Q, ReqA_eq]
     repeat (refine And.intro (by omega) ?_)
     repeat' (first | ((first | refine r_casesD (fun hp hb => ?_) (fun hp hb => ?_) | refine r_casesN (fun hp hb => ?_) (fun hp hb => ?_) | refine r_casesM (fun hp hb => ?_) (fun hp hb => ?_) | refine r_casesB (fun hp hb => ?_) (fun hp hb => ?_) | refine r_gcasesD (fun hp hb => ?_) (fun hp hb => ?_) | refine r_gcasesN (fun hp hb => ?_) (fun hp hb => ?_) | refine r_gcasesM (fun hp hb => ?_) (fun hp hb => ?_) | refine r_gcasesB (fun hp hb => ?_) (fun hp hb => ?_)) <;> simp only [↓wt, wz, reduceAdd, reduceMul, reduceEqDiff, reduceLeDiff, Nat.reduceLT, reduceLE, reduceLT, reduceEq, reduceNe, e3', Tryz.results14, hb]) | ((with_reducible refine And.intro ?_ ?_); omega) | fail)
     · exact exp_bF (p := MayK c who k) fun h => by have := any_falseR' h.2.2.2.2.2.1 hil; omega
     · refine ⟨i + 1, ⟨by omega, fun j hj => ?_⟩, by omega, ?_⟩
       · rcases Nat.lt_or_ge j i with h | h
         · exact hG j h
         · have : j = i := by omega
           subst this
           omega
       · simp only [↓wt, wz, wkf, reduceAdd, reduceMul, reduceEqDiff, reduceLeDiff, Nat.reduceLT, reduceLE, reduceLT, reduceEq, reduceNe, e3', underL_R, underL_Q, underL_U, underL_N, underL_O, underL_I]
         try trivial
   · have hall := any_falseR (l := k.l) (ck := k.ck) fun j hj => hG j (by omega)
     refine loop_ruleC tabOk [1, 3, 5] (fun i : Nat => [(8, .c (.int .i64 i))]) (fun i => i ≤ k.o.length ∧ ∀ j, j < i → OutOk c who k.ck (outAt k.o j)) (fun i => k.o.length - i) 0 ⟨by omega, fun j h => by omega⟩ ?_ ?_
     · simp only [↓wt, wz, wkf, reduceAdd, reduceMul, reduceEqDiff, reduceLeDiff, Nat.reduceLT, reduceLE, reduceLT, reduceEq, reduceNe, underL_R, underL_Q, underL_U, underL_N, underL_O, underL_I]
       try trivial
     · rintro i ⟨hi, hG⟩
       simp only [↓wt, wz, reduceAdd, reduceMul, reduceEqDiff, reduceLeDiff, Nat.reduceLT, reduceLE, reduceLT, reduceEq, reduceNe]
       cases f0 : decide ((i : Int) < (k.o.length : Int))
       rotate_left
       · have hil : i < k.o.length := by have := of_decide_eq_true f0; omega
         have e3' := wi_succ (k := i) (by omega)
         simp only [↓wt, wz, reduceAdd, reduceMul, reduceEqDiff, reduceLeDiff, Nat.reduceLT, reduceLE, reduceLT, reduceEq, reduceNe, f0, elem_U, OutA_eq]
         repeat (refine And.intro (by omega) ?_)
         refine icall_drop [] (rstmay_call _ _ c.n) ⟨arg_st, arg_c, trivial⟩ (.c _) ?_
         cases f1 : decide (MaySt (outAt k.o i).t (outAt k.o i).w c.n)
         · simp only [↓wt, wz, reduceAdd, reduceMul, reduceEqDiff, reduceLeDiff, Nat.reduceLT, reduceLE, reduceLT, reduceEq, reduceNe, f1, Tryz.results14]
           exact exp_bF (p := MayK c who k) fun h => of_decide_eq_false f1 (any_falseU' h.2.2.2.2.2.2.1 hil).1.1
         simp only [↓wt, wz, reduceAdd, reduceMul, reduceEqDiff, reduceLeDiff, Nat.reduceLT, reduceLE, reduceLT, reduceEq, reduceNe, f1]
         cases f2 : decide ((outAt k.o i).w = who)
         · simp only [↓wt, wz, reduceAdd, reduceMul, reduceEqDiff, reduceLeDiff, Nat.reduceLT, reduceLE, reduceLT, reduceEq, reduceNe, f2, Tryz.results14]
           exact exp_bF (p := MayK c who k) fun h => of_decide_eq_false f2 (any_falseU' h.2.2.2.2.2.2.1 hil).1.2
         simp only [↓wt, wz, reduceAdd, reduceMul, reduceEqDiff, reduceLeDiff, Nat.reduceLT, reduceLE, reduceLT, reduceEq, reduceNe, f2]
         cases f3 : decide ((outAt k.o i).t > k.ck)
         rotate_left
         · simp only [↓wt, wz, reduceAdd, reduceMul, reduceEqDiff, reduceLeDiff, Nat.reduceLT, reduceLE, reduceLT, reduceEq, reduceNe, f3, Tryz.results14]
           exact exp_bF (p := MayK c who k) fun h => by have := of_decide_eq_true f3; have := (any_falseU' h.2.2.2.2.2.2.1 hil).2.1; omega
         simp only [↓wt, wz, reduceAdd, reduceMul, reduceEqDiff, reduceLeDiff, Nat.reduceLT, reduceLE, reduceLT, reduceEq, reduceNe, f3]
         have hstep : ((outAt k.o i).c = 0 ∨ (outAt k.o i).c = 7) → ∀ j, j < i + 1 → OutOk c who k.ck (outAt k.o j) := fun h7 j hj => by
          rcases Nat.lt_or_ge j i with h | h
          · exact hG j h
          · have : j = i := by omega
            subst this
            exact ⟨⟨of_decide_eq_true f1, of_decide_eq_true f2⟩, by have := of_decide_eq_false f3; omega, h7⟩
         cases f4 : decide ((outAt k.o i).c = 0)
         rotate_left
         · simp only [↓wt, wz, reduceAdd, reduceMul, reduceEqDiff, reduceLeDiff, Nat.reduceLT, reduceLE, reduceLT, reduceEq, reduceNe, f4, e3']
           refine ⟨i + 1, ⟨by omega, hstep (.inl (of_decide_eq_true f4))⟩, by omega, ?_⟩
           simp only [↓wt, wz, wkf, reduceAdd, reduceMul, reduceEqDiff, reduceLeDiff, Nat.reduceLT, reduceLE, reduceLT, reduceEq, reduceNe, e3', underL_R, underL_Q, underL_U, underL_N, underL_O, underL_I]
           try trivial
         cases f5 : decide ((outAt k.o i).c = 7)
         · simp only [↓wt, wz, reduceAdd, reduceMul, reduceEqDiff, reduceLeDiff, Nat.reduceLT, reduceLE, reduceLT, reduceEq, reduceNe, f4, f5, Tryz.results14]
           exact exp_bF (p := MayK c who k) fun h => by have := of_decide_eq_false f4; have := of_decide_eq_false f5; have := (any_falseU' h.2.2.2.2.2.2.1 hil).2.2; omega
         · simp only [↓wt, wz, reduceAdd, reduceMul, reduceEqDiff, reduceLeDiff, Nat.reduceLT, reduceLE, reduceLT, reduceEq, reduceNe, f4, f5, e3']
           refine ⟨i + 1, ⟨by omega, hstep (.inr (of_decide_eq_true f5))⟩, by omega, ?_⟩
           simp only [↓wt, wz, wkf, reduceAdd, reduceMul, reduceEqDiff, reduceLeDiff, Nat.reduceLT, reduceLE, reduceLT, reduceEq, reduceNe, e3', underL_R, underL_Q, underL_U, underL_N, underL_O, underL_I]
           try trivial
       · have hall2 := any_falseU (l := k.o) (c := c) (who := who) (ck := k.ck) fun j hj => hG j (by have := of_decide_eq_false f0; omega)
         simp only [↓wt, wz, reduceAdd, reduceMul, reduceEqDiff, reduceLeDiff, Nat.reduceLT, reduceLE, reduceLT, reduceEq, reduceNe, f0]
         have hlast : MayN c who k.n → MayA c who k.a → (0 < k.l.length ∨ (k.k = 0 ∧ NoneA k.a)) → MayK c who k := fun g1 g2 g3 => ⟨ht, ⟨by have := of_decide_eq_false e4; omega, by have := of_decide_eq_false e5; omega⟩, of_decide_eq_true e1, of_decide_eq_true e6, by have := of_decide_eq_false e7; omega, hall, hall2, ⟨by have := of_decide_eq_false e9; omega, by have := of_decide_eq_false e10; omega⟩, g1, g2, by rw [may_end g2]; exact g3⟩
         have hno : ¬ (0 < k.l.length ∨ (k.k = 0 ∧ NoneA k.a)) → ¬ MayK c who k := fun g h => g (by have := h.2.2.2.2.2.2.2.2.2.2; rw [may_end h.2.2.2.2.2.2.2.2.2.1] at this; exact this)
         cases g1 : decide ((k.l.length : Int) = 0)
         · simp only [↓wt, wz, reduceAdd, reduceMul, reduceEqDiff, reduceLeDiff, Nat.reduceLT, reduceLE, reduceLT, reduceEq, reduceNe, g1]
           refine icall_drop [] (rmayn_call c who k.n hl4) ⟨arg_conf', arg_c, arg_notes, trivial⟩ (.c _) ?_
           cases g2 : decide (MayN c who k.n)
           · simp only [↓wt, wz, reduceAdd, reduceMul, reduceEqDiff, reduceLeDiff, Nat.reduceLT, reduceLE, reduceLT, reduceEq, reduceNe, g2, Tryz.results14]
             exact exp_bF (p := MayK c who k) fun h => of_decide_eq_false g2 h.2.2.2.2.2.2.2.2.1
           simp only [↓wt, wz, reduceAdd, reduceMul, reduceEqDiff, reduceLeDiff, Nat.reduceLT, reduceLE, reduceLT, reduceEq, reduceNe, g2]
           refine icall_drop [] (rmaya_call c who k.a hl5) ⟨arg_conf', arg_c, arg_aud, trivial⟩ (.c _) ?_
           simp only [↓wt, wz, reduceAdd, reduceMul, reduceEqDiff, reduceLeDiff, Nat.reduceLT, reduceLE, reduceLT, reduceEq, reduceNe, g2, Tryz.results14]
           exact exp_bE ⟨fun h => hlast (of_decide_eq_true g2) h (.inl (by have := of_decide_eq_false g1; omega)), fun h => h.2.2.2.2.2.2.2.2.2.1⟩
         simp only [↓wt, wz, reduceAdd, reduceMul, reduceEqDiff, reduceLeDiff, Nat.reduceLT, reduceLE, reduceLT, reduceEq, reduceNe, g1]
         have h0 : k.l.length = 0 := by have := of_decide_eq_true g1; omega
         cases g3 : decide (k.k > 0)
         rotate_left
         · simp only [↓wt, wz, reduceAdd, reduceMul, reduceEqDiff, reduceLeDiff, Nat.reduceLT, reduceLE, reduceLT, reduceEq, reduceNe, g3, Tryz.results14]
           exact exp_bF (p := MayK c who k) (hno fun h => by have := of_decide_eq_true g3; omega)
         simp only [↓wt, wz, reduceAdd, reduceMul, reduceEqDiff, reduceLeDiff, Nat.reduceLT, reduceLE, reduceLT, reduceEq, reduceNe, g3]
         refine icall_drop [] (rnone_call k.a) ⟨arg_aud, trivial⟩ (.c _) ?_
         cases g4 : decide (NoneA k.a)
         · simp only [↓wt, wz, reduceAdd, reduceMul, reduceEqDiff, reduceLeDiff, Nat.reduceLT, reduceLE, reduceLT, reduceEq, reduceNe, g4, Tryz.results14]
           exact exp_bF (p := MayK c who k) (hno fun h => by have := of_decide_eq_false g4; rcases h with h | h; omega; exact this h.2)
         simp only [↓wt, wz, reduceAdd, reduceMul, reduceEqDiff, reduceLeDiff, Nat.reduceLT, reduceLE, reduceLT, reduceEq, reduceNe, g4]
         refine icall_drop [] (rmayn_call c who k.n hl4) ⟨arg_conf', arg_c, arg_notes, trivial⟩ (.c _) ?_
         cases g2 : decide (MayN c who k.n)
         · simp only [↓wt, wz, reduceAdd, reduceMul, reduceEqDiff, reduceLeDiff, Nat.reduceLT, reduceLE, reduceLT, reduceEq, reduceNe, g2, Tryz.results14]
           exact exp_bF (p := MayK c who k) fun h => of_decide_eq_false g2 h.2.2.2.2.2.2.2.2.1
         simp only [↓wt, wz, reduceAdd, reduceMul, reduceEqDiff, reduceLeDiff, Nat.reduceLT, reduceLE, reduceLT, reduceEq, reduceNe, g2]
         refine icall_drop [] (rmaya_call c who k.a hl5) ⟨arg_conf', arg_c, arg_aud, trivial⟩ (.c _) ?_
         simp only [↓wt, wz, reduceAdd, reduceMul, reduceEqDiff, reduceLeDiff, Nat.reduceLT, reduceLE, reduceLT, reduceEq, reduceNe, g2, Tryz.results14]
         exact exp_bE ⟨fun h => hlast (of_decide_eq_true g2) h (.inr ⟨by have := of_decide_eq_false g3; have := of_decide_eq_false e9; omega, of_decide_eq_true g4⟩), fun h => h.2.2.2.2.2.2.2.2.2.1⟩
end Go.Ab
