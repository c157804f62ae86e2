/- BookApart: the law. -/
import Derived.Test.YtkikaagieknpdaaGreatTBk40
import Derived.Test.YtkikaagieknpdaaGreatBk24
set_option linter.unusedSimpArgs false
set_option linter.unusedVariables false
set_option linter.constructorNameAsVariable false
set_option maxRecDepth 100000
open Nat (reduceAdd reduceMul reduceEqDiff reduceLeDiff)
open Int (reduceLE reduceLT reduceEq reduceNe)
namespace Go.Ab
open Go Go.Proofs Go.RowKit
theorem take_cut {c : Conf} {who : Int} {k : BookD} (h : MayK c who k) {n : Nat} (hn : n < (encBk k).length) : takeBk c who ((encBk k).take n) = (k00, false) := by
 refine (takeBk_is c who _).uniq (.inr ⟨rfl, fun k' hk' he => ?_⟩)
 have e1 := book_put (may_wf h) []
 have e2 := book_put (may_wf hk') ((encBk k).drop n)
 rw [he, List.take_append_drop] at e2
 rw [List.append_nil, e2] at e1
 simp only [Option.some.injEq, Prod.mk.injEq] at e1
 have := congrArg List.length e1.2
 simp only [List.length_drop, List.length_nil] at this
 omega
set_option maxHeartbeats 4000000 in
theorem bapart_call (c : Conf) (w : Int) (a b : BookD) (cut : Nat) (hcut : cut < 65536) (ha : Wide a.r) (hb : Wide b.r) : PCall Tryz.prog 5 [ConfA c, .c (.int .i64 w), BookV a, BookV b, .c (.int .u16 cut)] (.c (.bool true)) := by
 refine pcall_body tabOk Tryz.func5 rfl rfl (by rw [Tryz.ntmps5]; simp) ?_
 simp only [Tryz.ntmps5, ConfA, BookV]
 simp only [↓wt, wz, reduceAdd, reduceMul, reduceEqDiff, reduceLeDiff, Nat.reduceLT, reduceLE, reduceLT, reduceEq, reduceNe]
 refine icall_drop [] bklaw_call trivial (.c _) ?_
 simp only [↓wt, wz, reduceAdd, reduceMul, reduceEqDiff, reduceLeDiff, Nat.reduceLT, reduceLE, reduceLT, reduceEq, reduceNe]
 refine icall_drop [] (rbkshort_call a ha) ⟨arg_book, trivial⟩ (.c _) ?_
 cases e1 : decide (ShortK a)
 · simp only [↓wt, wz, reduceAdd, reduceMul, reduceEqDiff, reduceLeDiff, Nat.reduceLT, reduceLE, reduceLT, reduceEq, reduceNe, e1, Tryz.results5]
   exact exp_c
 simp only [↓wt, wz, reduceAdd, reduceMul, reduceEqDiff, reduceLeDiff, Nat.reduceLT, reduceLE, reduceLT, reduceEq, reduceNe, e1]
 refine icall_drop [] (rbkshort_call b hb) ⟨arg_book, trivial⟩ (.c _) ?_
 cases e2 : decide (ShortK b)
 · simp only [↓wt, wz, reduceAdd, reduceMul, reduceEqDiff, reduceLeDiff, Nat.reduceLT, reduceLE, reduceLT, reduceEq, reduceNe, e2, Tryz.results5]
   exact exp_c
 obtain ⟨hsa, hla⟩ := short_small (of_decide_eq_true e1)
 obtain ⟨hsb, hlb⟩ := short_small (of_decide_eq_true e2)
 have hea := enc_small hsa
 simp only [↓wt, wz, reduceAdd, reduceMul, reduceEqDiff, reduceLeDiff, Nat.reduceLT, reduceLE, reduceLT, reduceEq, reduceNe, e2]
 refine icall_drop [] (rbkmay_call c w a hla) ⟨arg_conf', arg_c, arg_book, trivial⟩ (.c _) ?_
 cases e3 : decide (MayK c w a)
 · simp only [↓wt, wz, reduceAdd, reduceMul, reduceEqDiff, reduceLeDiff, Nat.reduceLT, reduceLE, reduceLT, reduceEq, reduceNe, e3, Tryz.results5]
   exact exp_c
 simp only [↓wt, wz, reduceAdd, reduceMul, reduceEqDiff, reduceLeDiff, Nat.reduceLT, reduceLE, reduceLT, reduceEq, reduceNe, e3]
 refine icall_drop [] (rbkmay_call c w b hlb) ⟨arg_conf', arg_c, arg_book, trivial⟩ (.c _) ?_
 cases e4 : decide (MayK c w b)
 · simp only [↓wt, wz, reduceAdd, reduceMul, reduceEqDiff, reduceLeDiff, Nat.reduceLT, reduceLE, reduceLT, reduceEq, reduceNe, e4, Tryz.results5]
   exact exp_c
 have hma := of_decide_eq_true e3
 have hmb := of_decide_eq_true e4
 simp only [↓wt, wz, reduceAdd, reduceMul, reduceEqDiff, reduceLeDiff, Nat.reduceLT, reduceLE, reduceLT, reduceEq, reduceNe, e4]
 refine freeze_rule 0 [1, 4, 5, 7, 8] (by simp only [↓wt, wz, reduceAdd, reduceMul, reduceEqDiff, reduceLeDiff, Nat.reduceLT, reduceLE, reduceLT, reduceEq, reduceNe, underL_R, underL_Q, underL_U, underL_N, underL_O]; (try (repeat' (first | (exact fun _ => by simp only [pureL_eq, underL_cons, underL_nil, AV.cells, under_l, under_c, under_g, under_e, under_f, underL_B, underL_I, underL_Bs, under_Bs, List.mem_cons, List.not_mem_nil, or_false, forall_eq_or_imp, forall_eq, and_self, and_true, true_and, underL_R, underL_Q, underL_U, underL_N, underL_O]) | ((with_reducible refine And.intro ?_ ?_)) | (intro _) | omega | (simp only [pureL_eq, underL_cons, underL_nil, AV.cells, under_l, under_c, under_g, under_e, under_f, underL_B, underL_I, underL_Bs, under_Bs, List.mem_cons, List.not_mem_nil, or_false, forall_eq_or_imp, forall_eq, and_self, and_true, true_and, underL_R, underL_Q, underL_U, underL_N, underL_O])))); done) (by simp only [↓wt, wz, reduceAdd, reduceMul, reduceEqDiff, reduceLeDiff, Nat.reduceLT, reduceLE, reduceLT, reduceEq, reduceNe, underL_R, underL_Q, underL_U, underL_N, underL_O]; (try (repeat' (first | (exact fun _ => by simp only [pureL_eq, underL_cons, underL_nil, AV.cells, under_l, under_c, under_g, under_e, under_f, underL_B, underL_I, underL_Bs, under_Bs, List.mem_cons, List.not_mem_nil, or_false, forall_eq_or_imp, forall_eq, and_self, and_true, true_and, underL_R, underL_Q, underL_U, underL_N, underL_O]) | ((with_reducible refine And.intro ?_ ?_)) | (intro _) | omega | (simp only [pureL_eq, underL_cons, underL_nil, AV.cells, under_l, under_c, under_g, under_e, under_f, underL_B, underL_I, underL_Bs, under_Bs, List.mem_cons, List.not_mem_nil, or_false, forall_eq_or_imp, forall_eq, and_self, and_true, true_and, underL_R, underL_Q, underL_U, underL_N, underL_O])))); done) ?_; simp only [↓wt, wz, reduceAdd, reduceMul, reduceEqDiff, reduceLeDiff, Nat.reduceLT, reduceLE, reduceLT, reduceEq, reduceNe, underL_R, underL_Q, underL_U, underL_N, underL_O]; refine freeze_rule 1 [1, 4, 5, 7, 8] (by simp only [↓wt, wz, reduceAdd, reduceMul, reduceEqDiff, reduceLeDiff, Nat.reduceLT, reduceLE, reduceLT, reduceEq, reduceNe, underL_R, underL_Q, underL_U, underL_N, underL_O]; (try (repeat' (first | (exact fun _ => by simp only [pureL_eq, underL_cons, underL_nil, AV.cells, under_l, under_c, under_g, under_e, under_f, underL_B, underL_I, underL_Bs, under_Bs, List.mem_cons, List.not_mem_nil, or_false, forall_eq_or_imp, forall_eq, and_self, and_true, true_and, underL_R, underL_Q, underL_U, underL_N, underL_O]) | ((with_reducible refine And.intro ?_ ?_)) | (intro _) | omega | (simp only [pureL_eq, underL_cons, underL_nil, AV.cells, under_l, under_c, under_g, under_e, under_f, underL_B, underL_I, underL_Bs, under_Bs, List.mem_cons, List.not_mem_nil, or_false, forall_eq_or_imp, forall_eq, and_self, and_true, true_and, underL_R, underL_Q, underL_U, underL_N, underL_O])))); done) (by simp only [↓wt, wz, reduceAdd, reduceMul, reduceEqDiff, reduceLeDiff, Nat.reduceLT, reduceLE, reduceLT, reduceEq, reduceNe, underL_R, underL_Q, underL_U, underL_N, underL_O]; (try (repeat' (first | (exact fun _ => by simp only [pureL_eq, underL_cons, underL_nil, AV.cells, under_l, under_c, under_g, under_e, under_f, underL_B, underL_I, underL_Bs, under_Bs, List.mem_cons, List.not_mem_nil, or_false, forall_eq_or_imp, forall_eq, and_self, and_true, true_and, underL_R, underL_Q, underL_U, underL_N, underL_O]) | ((with_reducible refine And.intro ?_ ?_)) | (intro _) | omega | (simp only [pureL_eq, underL_cons, underL_nil, AV.cells, under_l, under_c, under_g, under_e, under_f, underL_B, underL_I, underL_Bs, under_Bs, List.mem_cons, List.not_mem_nil, or_false, forall_eq_or_imp, forall_eq, and_self, and_true, true_and, underL_R, underL_Q, underL_U, underL_N, underL_O])))); done) ?_; simp only [↓wt, wz, reduceAdd, reduceMul, reduceEqDiff, reduceLeDiff, Nat.reduceLT, reduceLE, reduceLT, reduceEq, reduceNe, underL_R, underL_Q, underL_U, underL_N, underL_O]; refine freeze_rule 2 [1, 4, 5, 7, 8] (by simp only [↓wt, wz, reduceAdd, reduceMul, reduceEqDiff, reduceLeDiff, Nat.reduceLT, reduceLE, reduceLT, reduceEq, reduceNe, underL_R, underL_Q, underL_U, underL_N, underL_O]; (try (repeat' (first | (exact fun _ => by simp only [pureL_eq, underL_cons, underL_nil, AV.cells, under_l, under_c, under_g, under_e, under_f, underL_B, underL_I, underL_Bs, under_Bs, List.mem_cons, List.not_mem_nil, or_false, forall_eq_or_imp, forall_eq, and_self, and_true, true_and, underL_R, underL_Q, underL_U, underL_N, underL_O]) | ((with_reducible refine And.intro ?_ ?_)) | (intro _) | omega | (simp only [pureL_eq, underL_cons, underL_nil, AV.cells, under_l, under_c, under_g, under_e, under_f, underL_B, underL_I, underL_Bs, under_Bs, List.mem_cons, List.not_mem_nil, or_false, forall_eq_or_imp, forall_eq, and_self, and_true, true_and, underL_R, underL_Q, underL_U, underL_N, underL_O])))); done) (by simp only [↓wt, wz, reduceAdd, reduceMul, reduceEqDiff, reduceLeDiff, Nat.reduceLT, reduceLE, reduceLT, reduceEq, reduceNe, underL_R, underL_Q, underL_U, underL_N, underL_O]; (try (repeat' (first | (exact fun _ => by simp only [pureL_eq, underL_cons, underL_nil, AV.cells, under_l, under_c, under_g, under_e, under_f, underL_B, underL_I, underL_Bs, under_Bs, List.mem_cons, List.not_mem_nil, or_false, forall_eq_or_imp, forall_eq, and_self, and_true, true_and, underL_R, underL_Q, underL_U, underL_N, underL_O]) | ((with_reducible refine And.intro ?_ ?_)) | (intro _) | omega | (simp only [pureL_eq, underL_cons, underL_nil, AV.cells, under_l, under_c, under_g, under_e, under_f, underL_B, underL_I, underL_Bs, under_Bs, List.mem_cons, List.not_mem_nil, or_false, forall_eq_or_imp, forall_eq, and_self, and_true, true_and, underL_R, underL_Q, underL_U, underL_N, underL_O])))); done) ?_; simp only [↓wt, wz, reduceAdd, reduceMul, reduceEqDiff, reduceLeDiff, Nat.reduceLT, reduceLE, reduceLT, reduceEq, reduceNe, underL_R, underL_Q, underL_U, underL_N, underL_O]
 refine draw_rule tabOk mixed [0, 3, 0, 3, 0, 0] [[], [0], [], [0, 1, 2], [0, 1, 2, 3], [0, 1, 2, 3, 4]] (by kernel_rfl) ?_
 simp only [↓wt, wz, reduceAdd, reduceMul, reduceEqDiff, reduceLeDiff, Nat.reduceLT, reduceLE, reduceLT, reduceEq, reduceNe]
 refine d_pureC (r := Bs (encBk a)) (fun M0 => icall_drop [] (bkput_call a hsa) ⟨arg_book, trivial⟩ okR_Bs ⟨rfl, rfl⟩) ?_
 simp only [↓wt, wz, reduceAdd, reduceMul, reduceEqDiff, reduceLeDiff, Nat.reduceLT, reduceLE, reduceLT, reduceEq, reduceNe]
 refine d_pureC (r := Bs (encBk b)) (fun M0 => icall_drop [] (bkput_call b hsb) ⟨arg_book, trivial⟩ okR_Bs ⟨rfl, rfl⟩) ?_
 simp only [↓wt, wz, reduceAdd, reduceMul, reduceEqDiff, reduceLeDiff, Nat.reduceLT, reduceLE, reduceLT, reduceEq, reduceNe, Bs]
 refine draw_rule tabOk mixed [0, 0, 0, 0, 0, 0, 0, 3, 0, 0, 0, 0, 0, 0] [[], [0], [], [2], [0, 1, 2, 3], [], [], [5, 6], [0, 1, 2, 3, 4, 5, 6, 7], [0, 1, 2, 3, 4, 5, 6, 7, 8], [0, 1, 2, 3, 4, 5, 6, 7, 8, 9], [0, 1, 2, 3, 4, 5, 6, 7, 8, 9, 10], [0, 1, 2, 3, 4, 5, 6, 7, 8, 9, 10, 11], [0, 1, 2, 3, 4, 5, 6, 7, 8, 9, 10, 11, 12]] (by kernel_rfl) ?_
 simp only [↓wt, wz, reduceAdd, reduceMul, reduceEqDiff, reduceLeDiff, Nat.reduceLT, reduceLE, reduceLT, reduceEq, reduceNe, Bs]
 refine d_pureC (r := .c (.bool (decide (a = b)))) (fun M0 => icall_drop [] (rbksame_call a b hla) ⟨arg_book, arg_book, trivial⟩ (.c _) ⟨rfl, rfl⟩) ?_
 have hq : ((encBk a == encBk b) == decide (a = b)) = true := by
  rw [beq_iff_eq, Bool.eq_iff_iff, beq_iff_eq, decide_eq_true_iff]
  exact ⟨fun h => encBk_inj hma hmb h, fun h => by rw [h]⟩
 have pa : 0 < (encBk a).length := by
  have := List.length_pos_iff.2 (putL_ne (uNat a.ck))
  rw [tl0, encN]
  simp only [List.length_append]; omega
 have hz : decide (((encBk a).length : Int) = 0) = false := decide_eq_false (by omega)
 simp only [↓wt, wz, reduceAdd, reduceMul, reduceEqDiff, reduceLeDiff, Nat.reduceLT, reduceLE, reduceLT, reduceEq, reduceNe, hq, hz, Bs]
 have hr : (IntKind.i64.wrap (cut : Int)).tmod ((encBk a).length : Int) = ((cut % (encBk a).length : Nat) : Int) := by rw [wrap_i64 (by omega) (by omega)]; exact tmod_nat
 have hm : cut % (encBk a).length < (encBk a).length := Nat.mod_lt _ pa
 have hmt := bktake_call c w ((encBk a).take (cut % (encBk a).length)) (by rw [List.length_take]; omega)
 rw [take_cut hma hm] at hmt
 refine draw_rule4 tabOk mixed [(37, 0)] [0, 0, 0, 0, 0, 0, 0, 0, 0, 3, 0, 0, 0, 4, 1, 0] [0, 0, 0, 0, 0, 0, 0, 0, 0, 0, 0, 0, 0, 3, 0, 0] [[], [], [], [], [3], [], [5], [3, 4, 5, 6], [2, 3, 4, 5, 6, 7], [0, 1, 2, 3, 4, 5, 6, 7, 8], [0, 1, 2, 3, 4, 5, 6, 7, 8, 9], [0, 1, 2, 3, 4, 5, 6, 7, 8, 9, 10], [0, 1, 2, 3, 4, 5, 6, 7, 8, 9, 10], [], [0, 1, 2, 3, 4, 5, 6, 7, 8, 9, 10, 11, 13], [0, 1, 2, 3, 4, 5, 6, 7, 8, 9, 10, 11, 12, 13, 14]] (by kernel_rfl) (by kernel_rfl) ?_
 simp only [↓wt, wz, reduceAdd, reduceMul, reduceEqDiff, reduceLeDiff, Nat.reduceLT, reduceLE, reduceLT, reduceEq, reduceNe, hr, Bs]
 repeat (refine And.intro (by omega) ?_)
 refine d_pureC (r := .t [BookV k00, .c (.bool false)]) (fun M0 => icall_drop [] hmt ⟨arg_conf', arg_c, arg_l (pureB _), trivial⟩ okR_bs ⟨rfl, rfl⟩) ?_
 simp only [↓wt, wz, reduceAdd, reduceMul, reduceEqDiff, reduceLeDiff, Nat.reduceLT, reduceLE, reduceLT, reduceEq, reduceNe, BookV, Bs]
 refine d_heavyX (by simp only [↓wt, wz, reduceAdd, reduceMul, reduceEqDiff, reduceLeDiff, Nat.reduceLT, reduceLE, reduceLT, reduceEq, reduceNe, Cell]; (repeat (first | refine And.intro (by omega) ?_ | refine And.intro (pureB _) ?_ | refine And.intro (pureI _) ?_ | refine And.intro ⟨pureB _, pureB _⟩ ?_ | refine And.intro ⟨pureB _, pureI _⟩ ?_ | refine And.intro ⟨pureI _, pureB _⟩ ?_ | refine And.intro ⟨pureI _, pureI _⟩ ?_)); exact ⟨rfl, rfl⟩) ?_
 simp only [↓wt, wz, reduceAdd, reduceMul, reduceEqDiff, reduceLeDiff, Nat.reduceLT, reduceLE, reduceLT, reduceEq, reduceNe, Cell]
 have m9 := bktake_call c w (encBk a ++ [UInt8.ofNat cut]) (by rw [List.length_append]; simp; omega)
 rw [take_more hma (by simp)] at m9
 have hu : IntKind.u8.wrap (cut : Int) = ((UInt8.ofNat cut).toNat : Int) := by rw [IntKind.wrap_u8, UInt8.toNat_ofNat']; omega
 have hap : (encBk a).map encB ++ [AV.c (.int .u8 ((UInt8.ofNat cut).toNat : Int))] = (encBk a ++ [UInt8.ofNat cut]).map encB := by rw [List.map_append]; rfl
 refine draw_rule4 tabOk mixed [(5, 1), (37, 0)] [0, 0, 5, 0, 1, 0, 0, 0, 1, 1, 0, 0, 0, 4, 1, 0] [0, 0, 4, 0, 0, 0, 0, 0, 0, 0, 0, 0, 0, 5, 0, 0] [[], [], [], [], [2, 3], [], [5], [5, 6], [2, 3, 4, 5, 6, 7], [0, 1, 2, 3, 4, 5, 6, 7, 8], [0, 1, 2, 3, 4, 5, 6, 7, 8, 9], [0, 1, 2, 3, 4, 5, 6, 7, 8, 9, 10], [0, 1, 2, 3, 4, 5, 6, 7, 8, 9, 10], [], [0, 1, 2, 3, 4, 5, 6, 7, 8, 9, 10, 11, 13], [0, 1, 2, 3, 4, 5, 6, 7, 8, 9, 10, 11, 12, 13, 14]] (by kernel_rfl) (by kernel_rfl) ?_
 simp only [↓wt, wz, reduceAdd, reduceMul, reduceEqDiff, reduceLeDiff, Nat.reduceLT, reduceLE, reduceLT, reduceEq, reduceNe, Bs]
 refine d4_heavyX (fun β => by simp only [↓wt, wz, reduceAdd, reduceMul, reduceEqDiff, reduceLeDiff, Nat.reduceLT, reduceLE, reduceLT, reduceEq, reduceNe]; (repeat (first | refine And.intro (by omega) ?_ | refine And.intro (pureB _) ?_ | refine And.intro (pureI _) ?_ | refine And.intro ⟨pureB _, pureB _⟩ ?_ | refine And.intro ⟨pureB _, pureI _⟩ ?_ | refine And.intro ⟨pureI _, pureB _⟩ ?_ | refine And.intro ⟨pureI _, pureI _⟩ ?_)); exact ⟨rfl, rfl⟩) (fun β => by rfl) ?_
 simp only [↓wt, wz, reduceAdd, reduceMul, reduceEqDiff, reduceLeDiff, Nat.reduceLT, reduceLE, reduceLT, reduceEq, reduceNe, hu]
 refine d4_heavyX (fun β => by simp only [↓wt, wz, reduceAdd, reduceMul, reduceEqDiff, reduceLeDiff, Nat.reduceLT, reduceLE, reduceLT, reduceEq, reduceNe]; (repeat (first | refine And.intro (by omega) ?_ | refine And.intro (pureB _) ?_ | refine And.intro (pureI _) ?_ | refine And.intro ⟨pureB _, pureB _⟩ ?_ | refine And.intro ⟨pureB _, pureI _⟩ ?_ | refine And.intro ⟨pureI _, pureB _⟩ ?_ | refine And.intro ⟨pureI _, pureI _⟩ ?_)); exact ⟨rfl, rfl⟩) (fun β => by rfl) ?_
 simp only [↓wt, wz, reduceAdd, reduceMul, reduceEqDiff, reduceLeDiff, Nat.reduceLT, reduceLE, reduceLT, reduceEq, reduceNe, hap]
 refine d4_heavyC (r := .t [BookV k00, .c (.bool false)]) (fun β => icall_drop [4] m9 ⟨arg_conf', arg_c, arg_own (by simp) rfl (by simp) (pureB _), trivial⟩ okR_bs ⟨rfl, rfl⟩) (fun β => by rfl) ?_
 simp only [↓wt, wz, reduceAdd, reduceMul, reduceEqDiff, reduceLeDiff, Nat.reduceLT, reduceLE, reduceLT, reduceEq, reduceNe, BookV, Bs]
 refine d_heavyX (by simp only [↓wt, wz, reduceAdd, reduceMul, reduceEqDiff, reduceLeDiff, Nat.reduceLT, reduceLE, reduceLT, reduceEq, reduceNe, Cell]; (repeat (first | refine And.intro (by omega) ?_ | refine And.intro (pureB _) ?_ | refine And.intro (pureI _) ?_ | refine And.intro ⟨pureB _, pureB _⟩ ?_ | refine And.intro ⟨pureB _, pureI _⟩ ?_ | refine And.intro ⟨pureI _, pureB _⟩ ?_ | refine And.intro ⟨pureI _, pureI _⟩ ?_)); exact ⟨rfl, rfl⟩) ?_
 simp only [↓wt, wz, reduceAdd, reduceMul, reduceEqDiff, reduceLeDiff, Nat.reduceLT, reduceLE, reduceLT, reduceEq, reduceNe, Cell, Tryz.results5]
 exact exp_c
end Go.Ab
