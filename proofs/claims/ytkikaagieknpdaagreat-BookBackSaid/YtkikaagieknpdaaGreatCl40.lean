/- Claims: may it be a note: the document's, one part. -/
import Derived.Test.YtkikaagieknpdaaGreatTRt15
set_option linter.unusedSimpArgs false
set_option linter.unusedVariables false
set_option linter.constructorNameAsVariable false
set_option maxRecDepth 100000
open Nat (reduceAdd reduceMul reduceEqDiff reduceLeDiff)
open Int (reduceLE reduceLT reduceEq reduceNe)
namespace Go.Ab
open Go Go.Proofs Go.RowKit
theorem noteOk_of {c : Conf} {who : Int} {n : NoteD} (hh : HeadOk c.n who n.t n.w n.a) (h1 : 0 ≤ n.ck) (h2 : n.ck ≤ 1125899906842624) (h3 : 0 ≤ n.k) (h4 : n.k ≤ c.r) : LookOk n.y n.p ↔ NoteOk c who n :=
 ⟨fun h => ⟨⟨h1, h2⟩, hh, ⟨h3, h4⟩, h⟩, fun h => h.2.2.2⟩
set_option maxHeartbeats 4000000 in
theorem rnote_A (c : Conf) (who : Int) (n : NoteD) (hA : n.t = 0 ∧ n.w = 0 ∧ n.a = 0) : PCall Tryz.prog 93 [ConfA c, .c (.int .i64 who), NoteV n] (.c (.bool (decide (NoteOk c who n)))) := by
 have f1 : decide (n.t = 0) = true := decide_eq_true hA.1
 have f2 : decide (n.w = 0) = true := decide_eq_true hA.2.1
 have f3 : decide (n.a = 0) = true := decide_eq_true hA.2.2
 have f4 : decide (MaySt n.t n.w c.n) = false := decide_eq_false fun h => by unfold MaySt at h; omega
 have hh : HeadOk c.n who n.t n.w n.a := .inl hA
 refine pcall_body tabOk Tryz.func93 rfl rfl (by rw [Tryz.ntmps93]; simp) ?_
 simp only [Tryz.ntmps93, ConfA, NoteV]
 simp only [↓wt, wz, reduceAdd, reduceMul, reduceEqDiff, reduceLeDiff, Nat.reduceLT, reduceLE, reduceLT, reduceEq, reduceNe, f1, f2, f3]
 refine icall_drop [] (rstmay_call n.t n.w c.n) ⟨arg_st, arg_c, trivial⟩ (.c _) ?_
 simp only [↓wt, wz, reduceAdd, reduceMul, reduceEqDiff, reduceLeDiff, Nat.reduceLT, reduceLE, reduceLT, reduceEq, reduceNe, f4]
 repeat' (first | ((first | refine r_casesD (fun hp hb => ?_) (fun hp hb => ?_) | refine r_casesN (fun hp hb => ?_) (fun hp hb => ?_) | refine r_casesM (fun hp hb => ?_) (fun hp hb => ?_) | refine r_casesB (fun hp hb => ?_) (fun hp hb => ?_) | refine r_gcasesD (fun hp hb => ?_) (fun hp hb => ?_) | refine r_gcasesN (fun hp hb => ?_) (fun hp hb => ?_) | refine r_gcasesM (fun hp hb => ?_) (fun hp hb => ?_) | refine r_gcasesB (fun hp hb => ?_) (fun hp hb => ?_)) <;> simp only [↓wt, wz, reduceAdd, reduceMul, reduceEqDiff, reduceLeDiff, Nat.reduceLT, reduceLE, reduceLT, reduceEq, reduceNe, Tryz.results93, hb]) | ((with_reducible refine And.intro ?_ ?_); omega) | fail)
 · refine icall_drop [] (rlook_call n.y n.p) ⟨arg_look, trivial⟩ (.c _) ?_
   simp only [↓wt, wz, reduceAdd, reduceMul, reduceEqDiff, reduceLeDiff, Nat.reduceLT, reduceLE, reduceLT, reduceEq, reduceNe, Tryz.results93]
   exact exp_bE (noteOk_of hh (by omega) (by omega) (by omega) (by omega))
 all_goals exact exp_bF (p := NoteOk c who n) fun h => by have := h.1; have := h.2.2.1; omega
set_option maxHeartbeats 4000000 in
theorem rnote_B (c : Conf) (who : Int) (n : NoteD) (hB : MaySt n.t n.w c.n ∧ n.w = who ∧ 1 ≤ n.a ∧ n.a ≤ 1099511627776) : PCall Tryz.prog 93 [ConfA c, .c (.int .i64 who), NoteV n] (.c (.bool (decide (NoteOk c who n)))) := by
 have f1 : decide (n.t = 0) = false := decide_eq_false fun h => by have := hB.1; unfold MaySt at this; omega
 have f4 : decide (MaySt n.t n.w c.n) = true := decide_eq_true hB.1
 have f5 : decide (n.w = who) = true := decide_eq_true hB.2.1
 have f6 : decide (n.a > 0) = true := decide_eq_true (by omega)
 have f7 : decide (n.a ≤ 1099511627776) = true := decide_eq_true (by omega)
 have hh : HeadOk c.n who n.t n.w n.a := .inr hB
 refine pcall_body tabOk Tryz.func93 rfl rfl (by rw [Tryz.ntmps93]; simp) ?_
 simp only [Tryz.ntmps93, ConfA, NoteV]
 simp only [↓wt, wz, reduceAdd, reduceMul, reduceEqDiff, reduceLeDiff, Nat.reduceLT, reduceLE, reduceLT, reduceEq, reduceNe, f1]
 refine icall_drop [] (rstmay_call n.t n.w c.n) ⟨arg_st, arg_c, trivial⟩ (.c _) ?_
 simp only [↓wt, wz, reduceAdd, reduceMul, reduceEqDiff, reduceLeDiff, Nat.reduceLT, reduceLE, reduceLT, reduceEq, reduceNe, f4, f5, f6, f7]
 repeat' (first | ((first | refine r_casesD (fun hp hb => ?_) (fun hp hb => ?_) | refine r_casesN (fun hp hb => ?_) (fun hp hb => ?_) | refine r_casesM (fun hp hb => ?_) (fun hp hb => ?_) | refine r_casesB (fun hp hb => ?_) (fun hp hb => ?_) | refine r_gcasesD (fun hp hb => ?_) (fun hp hb => ?_) | refine r_gcasesN (fun hp hb => ?_) (fun hp hb => ?_) | refine r_gcasesM (fun hp hb => ?_) (fun hp hb => ?_) | refine r_gcasesB (fun hp hb => ?_) (fun hp hb => ?_)) <;> simp only [↓wt, wz, reduceAdd, reduceMul, reduceEqDiff, reduceLeDiff, Nat.reduceLT, reduceLE, reduceLT, reduceEq, reduceNe, Tryz.results93, hb]) | ((with_reducible refine And.intro ?_ ?_); omega) | fail)
 · refine icall_drop [] (rlook_call n.y n.p) ⟨arg_look, trivial⟩ (.c _) ?_
   simp only [↓wt, wz, reduceAdd, reduceMul, reduceEqDiff, reduceLeDiff, Nat.reduceLT, reduceLE, reduceLT, reduceEq, reduceNe, Tryz.results93]
   exact exp_bE (noteOk_of hh (by omega) (by omega) (by omega) (by omega))
 all_goals exact exp_bF (p := NoteOk c who n) fun h => by have := h.1; have := h.2.2.1; omega
end Go.Ab
