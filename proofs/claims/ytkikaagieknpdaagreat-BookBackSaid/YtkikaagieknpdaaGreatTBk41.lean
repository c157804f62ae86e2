/- BookBack: the law. Claims: notes, messages and stamps that came in. Books .. -/
import Derived.Test.YtkikaagieknpdaaGreatTBk40
import Derived.Test.YtkikaagieknpdaaGreatBk29
import Derived.Test.YtkikaagieknpdaaGreatTGr1
import Derived.Test.YtkikaagieknpdaaGreatTRt15
import Derived.Test.YtkikaagieknpdaaGreatAbG5
import Derived.Test.YtkikaagieknpdaaGreatAbG6
import Derived.Test.YtkikaagieknpdaaGreatTCl4
set_option linter.unusedSimpArgs false
set_option linter.unusedVariables false
set_option linter.constructorNameAsVariable false
set_option maxRecDepth 100000
open Nat (reduceAdd reduceMul reduceEqDiff reduceLeDiff)
open Int (reduceLE reduceLT reduceEq reduceNe)
namespace Go.Ab
open Go Go.Proofs Go.RowKit
theorem rbksize_call (n : Nat) (hn : n ≤ 1000000000) : PCall Tryz.prog 17 [.c (.int .i64 n)] (.c (.int .i64 ((putL n).length + n + 4 : Nat))) := by
 have hl := putL_len10 (n := n) (by omega)
 have m1 := (nrput_call [] n (by simp) (by omega)).frz
 rw [List.nil_append] at m1
 change PCall _ _ _ (Bs (putL n)) at m1
 have e1 : IntKind.u64.wrap (n : Int) = (n : Int) := wrap_u64 (by omega)
 have e2 : IntKind.i64.wrap (((putL n).length : Int) + (n : Int)) = (((putL n).length + n : Nat) : Int) := by rw [wrap_i64 (by omega) (by omega)]; omega
 have e3 : IntKind.i64.wrap ((((putL n).length + n : Nat) : Int) + 4) = (((putL n).length + n + 4 : Nat) : Int) := by rw [wrap_i64 (by omega) (by omega)]; omega
 have e4 : decide ((n : Int) < 0) = false := decide_eq_false (by omega)
 refine pcall_body tabOk Tryz.func17 rfl rfl (by rw [Tryz.ntmps17]; simp) ?_
 simp only [Tryz.ntmps17]
 simp only [↓wt, wz, reduceAdd, reduceMul, reduceEqDiff, reduceLeDiff, Nat.reduceLT, reduceLE, reduceLT, reduceEq, reduceNe, e4, e1]
 refine icall_drop [] m1 ⟨arg_nil, arg_c, trivial⟩ okR_Bs ?_
 simp only [↓wt, wz, reduceAdd, reduceMul, reduceEqDiff, reduceLeDiff, Nat.reduceLT, reduceLE, reduceLT, reduceEq, reduceNe, Bs, e2, e3, Tryz.results17]
 exact exp_c
set_option maxHeartbeats 4000000 in
theorem bback_call (c : Conf) (w : Int) (k : BookD) (hw : Wide k.r) : PCall Tryz.prog 4 [ConfA c, .c (.int .i64 w), BookV k] (.c (.bool true)) := by
 refine pcall_body tabOk Tryz.func4 rfl rfl (by rw [Tryz.ntmps4]; simp) ?_
 simp only [Tryz.ntmps4, ConfA, BookV]
 simp only [↓wt, wz, reduceAdd, reduceMul, reduceEqDiff, reduceLeDiff, Nat.reduceLT, reduceLE, reduceLT, reduceEq, reduceNe]
 refine icall_drop [] bklaw_call trivial (.c _) ?_
 simp only [↓wt, wz, reduceAdd, reduceMul, reduceEqDiff, reduceLeDiff, Nat.reduceLT, reduceLE, reduceLT, reduceEq, reduceNe]
 refine icall_drop [] (rbkshort_call k hw) ⟨arg_book, trivial⟩ (.c _) ?_
 cases e1 : decide (ShortK k)
 · simp only [↓wt, wz, reduceAdd, reduceMul, reduceEqDiff, reduceLeDiff, Nat.reduceLT, reduceLE, reduceLT, reduceEq, reduceNe, e1, Tryz.results4]
   exact exp_c
 obtain ⟨hsm, hbl⟩ := short_small (of_decide_eq_true e1)
 have hen := enc_small hsm
 simp only [↓wt, wz, reduceAdd, reduceMul, reduceEqDiff, reduceLeDiff, Nat.reduceLT, reduceLE, reduceLT, reduceEq, reduceNe, e1]
 refine icall_drop [] (bkput_call k hsm) ⟨arg_book, trivial⟩ okR_Bs ?_
 simp only [↓wt, wz, reduceAdd, reduceMul, reduceEqDiff, reduceLeDiff, Nat.reduceLT, reduceLE, reduceLT, reduceEq, reduceNe, Bs]
 refine freeze_rule 0 [1, 3, 5, 7] (by simp only [↓wt, wz, reduceAdd, reduceMul, reduceEqDiff, reduceLeDiff, Nat.reduceLT, reduceLE, reduceLT, reduceEq, reduceNe, underL_R, underL_Q, underL_U, underL_N, underL_O]; (try (repeat' (first | (exact fun _ => by simp only [pureL_eq, underL_cons, underL_nil, AV.cells, under_l, under_c, under_g, under_e, under_f, underL_B, underL_I, underL_Bs, under_Bs, List.mem_cons, List.not_mem_nil, or_false, forall_eq_or_imp, forall_eq, and_self, and_true, true_and, underL_R, underL_Q, underL_U, underL_N, underL_O]) | ((with_reducible refine And.intro ?_ ?_)) | (intro _) | omega | (simp only [pureL_eq, underL_cons, underL_nil, AV.cells, under_l, under_c, under_g, under_e, under_f, underL_B, underL_I, underL_Bs, under_Bs, List.mem_cons, List.not_mem_nil, or_false, forall_eq_or_imp, forall_eq, and_self, and_true, true_and, underL_R, underL_Q, underL_U, underL_N, underL_O])))); done) (by simp only [↓wt, wz, reduceAdd, reduceMul, reduceEqDiff, reduceLeDiff, Nat.reduceLT, reduceLE, reduceLT, reduceEq, reduceNe, underL_R, underL_Q, underL_U, underL_N, underL_O]; (try (repeat' (first | (exact fun _ => by simp only [pureL_eq, underL_cons, underL_nil, AV.cells, under_l, under_c, under_g, under_e, under_f, underL_B, underL_I, underL_Bs, under_Bs, List.mem_cons, List.not_mem_nil, or_false, forall_eq_or_imp, forall_eq, and_self, and_true, true_and, underL_R, underL_Q, underL_U, underL_N, underL_O]) | ((with_reducible refine And.intro ?_ ?_)) | (intro _) | omega | (simp only [pureL_eq, underL_cons, underL_nil, AV.cells, under_l, under_c, under_g, under_e, under_f, underL_B, underL_I, underL_Bs, under_Bs, List.mem_cons, List.not_mem_nil, or_false, forall_eq_or_imp, forall_eq, and_self, and_true, true_and, underL_R, underL_Q, underL_U, underL_N, underL_O])))); done) ?_; simp only [↓wt, wz, reduceAdd, reduceMul, reduceEqDiff, reduceLeDiff, Nat.reduceLT, reduceLE, reduceLT, reduceEq, reduceNe, underL_R, underL_Q, underL_U, underL_N, underL_O]; refine freeze_rule 1 [1, 3, 5, 7] (by simp only [↓wt, wz, reduceAdd, reduceMul, reduceEqDiff, reduceLeDiff, Nat.reduceLT, reduceLE, reduceLT, reduceEq, reduceNe, underL_R, underL_Q, underL_U, underL_N, underL_O]; (try (repeat' (first | (exact fun _ => by simp only [pureL_eq, underL_cons, underL_nil, AV.cells, under_l, under_c, under_g, under_e, under_f, underL_B, underL_I, underL_Bs, under_Bs, List.mem_cons, List.not_mem_nil, or_false, forall_eq_or_imp, forall_eq, and_self, and_true, true_and, underL_R, underL_Q, underL_U, underL_N, underL_O]) | ((with_reducible refine And.intro ?_ ?_)) | (intro _) | omega | (simp only [pureL_eq, underL_cons, underL_nil, AV.cells, under_l, under_c, under_g, under_e, under_f, underL_B, underL_I, underL_Bs, under_Bs, List.mem_cons, List.not_mem_nil, or_false, forall_eq_or_imp, forall_eq, and_self, and_true, true_and, underL_R, underL_Q, underL_U, underL_N, underL_O])))); done) (by simp only [↓wt, wz, reduceAdd, reduceMul, reduceEqDiff, reduceLeDiff, Nat.reduceLT, reduceLE, reduceLT, reduceEq, reduceNe, underL_R, underL_Q, underL_U, underL_N, underL_O]; (try (repeat' (first | (exact fun _ => by simp only [pureL_eq, underL_cons, underL_nil, AV.cells, under_l, under_c, under_g, under_e, under_f, underL_B, underL_I, underL_Bs, under_Bs, List.mem_cons, List.not_mem_nil, or_false, forall_eq_or_imp, forall_eq, and_self, and_true, true_and, underL_R, underL_Q, underL_U, underL_N, underL_O]) | ((with_reducible refine And.intro ?_ ?_)) | (intro _) | omega | (simp only [pureL_eq, underL_cons, underL_nil, AV.cells, under_l, under_c, under_g, under_e, under_f, underL_B, underL_I, underL_Bs, under_Bs, List.mem_cons, List.not_mem_nil, or_false, forall_eq_or_imp, forall_eq, and_self, and_true, true_and, underL_R, underL_Q, underL_U, underL_N, underL_O])))); done) ?_; simp only [↓wt, wz, reduceAdd, reduceMul, reduceEqDiff, reduceLeDiff, Nat.reduceLT, reduceLE, reduceLT, reduceEq, reduceNe, underL_R, underL_Q, underL_U, underL_N, underL_O]
 refine draw_rule tabOk mixed [0, 0, 0, 3, 0, 0, 0, 0, 0, 0, 3, 0, 0, 0, 3, 0, 0, 0, 0, 3, 0, 3, 0, 0] [[], [0], [], [2], [2, 3], [0, 1, 2, 3, 4], [0, 1, 2, 3, 4, 5], [0, 1, 2, 3, 4, 5, 6], [0, 1, 2, 3, 4, 5, 6], [0, 1, 2, 3, 4, 5, 6], [0, 1, 2, 3, 4, 5, 6, 7, 8, 9], [0, 1, 2, 3, 4, 5, 6], [0, 1, 2, 3, 4, 5, 6], [0, 1, 2, 3, 4, 5, 6], [0, 1, 2, 3, 4, 5, 6, 7, 8, 9, 10, 11, 12, 13], [0, 1, 2, 3, 4, 5, 6, 7, 8, 9, 10, 11, 12, 13, 14], [0, 1, 2, 3, 4, 5, 6, 7, 8, 9, 10, 11, 12, 13, 14, 15], [0, 1, 2, 3, 4, 5, 6, 7, 8, 9, 10, 11, 12, 13, 14, 15, 16], [0, 1, 2, 3, 4, 5, 6, 7, 8, 9, 10, 11, 12, 13, 14, 15, 16, 17], [0, 1, 2, 3, 4, 5, 6, 7, 8, 9, 10, 11, 12, 13, 14, 15, 16, 17, 18], [0, 1, 2, 3, 4, 5, 6, 7, 8, 9, 10, 11, 12, 13, 14, 15, 16, 17], [0, 1, 2, 3, 4, 5, 6, 7, 8, 9, 10, 11, 12, 13, 14, 15, 16, 17, 18, 19, 20], [0, 1, 2, 3, 4, 5, 6, 7, 8, 9, 10, 11, 12, 13, 14, 15, 16, 17, 18, 19, 20, 21], [0, 1, 2, 3, 4, 5, 6, 7, 8, 9, 10, 11, 12, 13, 14, 15, 16, 17, 18, 19, 20, 21, 22]] (by kernel_rfl) ?_
 simp only [↓wt, wz, reduceAdd, reduceMul, reduceEqDiff, reduceLeDiff, Nat.reduceLT, reduceLE, reduceLT, reduceEq, reduceNe, Bs]
 refine d_pureC (r := Bs (encBk k)) (fun M0 => icall_drop [] (rbkput_call k hsm) ⟨arg_book, trivial⟩ okR_Bs ⟨rfl, rfl⟩) ?_
 simp only [↓wt, wz, reduceAdd, reduceMul, reduceEqDiff, reduceLeDiff, Nat.reduceLT, reduceLE, reduceLT, reduceEq, reduceNe, Bs]
 refine d_pureC (r := .c (.bool (decide (MayK c w k)))) (fun M0 => icall_drop [] (bkmay_call c w k hbl) ⟨arg_conf', arg_c, arg_book, trivial⟩ (.c _) ⟨rfl, rfl⟩) ?_
 simp only [↓wt, wz, reduceAdd, reduceMul, reduceEqDiff, reduceLeDiff, Nat.reduceLT, reduceLE, reduceLT, reduceEq, reduceNe, Bs]
 refine d_pureC (r := .c (.bool (decide (MayK c w k)))) (fun M0 => icall_drop [] (rbkmay_call c w k hbl) ⟨arg_conf', arg_c, arg_book, trivial⟩ (.c _) ⟨rfl, rfl⟩) ?_
 simp only [↓wt, wz, reduceAdd, reduceMul, reduceEqDiff, reduceLeDiff, Nat.reduceLT, reduceLE, reduceLT, reduceEq, reduceNe, Bs]
 refine d_pureC (r := .c (.int .i64 (boundK c))) (fun M0 => icall_drop [] (bkbound_call c) ⟨arg_conf', trivial⟩ (.c _) ⟨rfl, rfl⟩) ?_
 simp only [↓wt, wz, reduceAdd, reduceMul, reduceEqDiff, reduceLeDiff, Nat.reduceLT, reduceLE, reduceLT, reduceEq, reduceNe, Bs]
 refine d_pureC (r := .c (.int .i64 (boundK c))) (fun M0 => icall_drop [] (rbkbound_call c) ⟨arg_conf', trivial⟩ (.c _) ⟨rfl, rfl⟩) ?_
 simp only [↓wt, wz, reduceAdd, reduceMul, reduceEqDiff, reduceLeDiff, Nat.reduceLT, reduceLE, reduceLT, reduceEq, reduceNe, Bs]
 refine icall_drop [] (rbkmay_call c w k hbl) ⟨arg_conf', arg_c, arg_book, trivial⟩ (.c _) ?_
 cases e2 : decide (MayK c w k)
 · simp only [↓wt, wz, reduceAdd, reduceMul, reduceEqDiff, reduceLeDiff, Nat.reduceLT, reduceLE, reduceLT, reduceEq, reduceNe, e2, Tryz.results4]
   exact exp_c
 have hm := of_decide_eq_true e2
 obtain ⟨h2f, hle⟩ := two_frames hm
 have m7 := bktake_call c w (encBk k) (by omega)
 rw [take_put hm] at m7
 have m8 := rbksame_call k k hbl
 rw [decide_eq_true rfl] at m8
 have hp := putL_len10 (n := (encBk k).length) (by omega)
 have e5 : IntKind.i64.wrap (2 * (((putL (encBk k).length).length + (encBk k).length + 4 : Nat) : Int)) = 2 * (((putL (encBk k).length).length + (encBk k).length + 4 : Nat) : Int) := wrap_i64 (by omega) (by omega)
 have e6 : decide (2 * (((putL (encBk k).length).length + (encBk k).length + 4 : Nat) : Int) ≤ boundK c) = true := decide_eq_true h2f
 simp only [↓wt, wz, reduceAdd, reduceMul, reduceEqDiff, reduceLeDiff, Nat.reduceLT, reduceLE, reduceLT, reduceEq, reduceNe, e2]
 refine icall_drop [] m7 ⟨arg_conf', arg_c, arg_l (pureB _), trivial⟩ okR_bs ?_
 simp only [↓wt, wz, reduceAdd, reduceMul, reduceEqDiff, reduceLeDiff, Nat.reduceLT, reduceLE, reduceLT, reduceEq, reduceNe, BookV, Cell]
 refine draw_rule tabOk mixed [0, 0, 2, 0, 3, 0, 0, 0, 0, 3, 0, 0, 3, 0, 0, 0] [[], [0], [0, 1], [0, 1], [0, 1, 2, 3], [0, 1, 2, 3, 4], [0, 1, 2, 3, 4, 5], [0, 1, 2, 3, 4, 5, 6], [0, 1, 2, 3, 4, 5, 6, 7], [0, 1, 2, 3, 4, 5, 6, 7, 8], [0, 1, 2, 3, 4, 5, 6, 7, 8, 9], [0, 1, 2, 3, 4, 5, 6], [0, 1, 2, 3, 4, 5, 6, 7, 8, 9, 11], [0, 1, 2, 3, 4, 5, 6, 7, 8, 9, 10, 11, 12], [0, 1, 2, 3, 4, 5, 6, 7, 8, 9, 10, 11, 12, 13], [0, 1, 2, 3, 4, 5, 6, 7, 8, 9, 10, 11, 12, 13, 14]] (by kernel_rfl) ?_
 simp only [↓wt, wz, reduceAdd, reduceMul, reduceEqDiff, reduceLeDiff, Nat.reduceLT, reduceLE, reduceLT, reduceEq, reduceNe]
 refine d_pureC (r := .c (.bool true)) (fun M0 => icall_drop [] m8 ⟨arg_book, arg_book, trivial⟩ (.c _) ⟨rfl, rfl⟩) ?_
 simp only [↓wt, wz, reduceAdd, reduceMul, reduceEqDiff, reduceLeDiff, Nat.reduceLT, reduceLE, reduceLT, reduceEq, reduceNe]
 refine d_pureC (r := .c (.int .i64 ((putL (encBk k).length).length + (encBk k).length + 4 : Nat))) (fun M0 => icall_drop [] (rbksize_call (encBk k).length (by omega)) ⟨arg_c, trivial⟩ (.c _) ⟨rfl, rfl⟩) ?_
 simp only [↓wt, wz, reduceAdd, reduceMul, reduceEqDiff, reduceLeDiff, Nat.reduceLT, reduceLE, reduceLT, reduceEq, reduceNe, e5]
 refine d_pureC (r := .c (.int .i64 (boundK c))) (fun M0 => icall_drop [] (bkbound_call c) ⟨arg_conf', trivial⟩ (.c _) ⟨rfl, rfl⟩) ?_
 simp only [↓wt, wz, reduceAdd, reduceMul, reduceEqDiff, reduceLeDiff, Nat.reduceLT, reduceLE, reduceLT, reduceEq, reduceNe, e6, Tryz.results4]
 exact exp_c
end Go.Ab
namespace Go.Ab
open Go Go.Proofs Go.RowKit Go.ChangeShapes Go.WideShapes Go.ChangeAt
theorem stamp_opener : Opener Tryz.prog 66 (fun x : Int × Int => StA x.1 x.2) (fun _ => True) :=
 Opener.map (Opener.struct ti66 rfl (by simp [cellsOf_tok ti3, cellsOf_tok ti2]) (FOpener.cons i64_opener ti2 (.cons int_opener ti3 .nil))) (fun a => (a.1, a.2.1)) fun a _ => ⟨rfl, trivial⟩
theorem look_opener : Opener Tryz.prog 31 LookV (fun _ => True) :=
 Opener.map (Opener.struct ti31 rfl (by simp [cellsOf_tok ti3, cellsOf_tok ti2]) (FOpener.cons i64_opener ti2 (.cons int_opener ti3 .nil))) (fun a => (a.1, a.2.1)) fun a _ => ⟨rfl, trivial⟩
theorem request_opener : Opener Tryz.prog 68 (fun x : Int × Int × Int => ReqV x.1 x.2.1 x.2.2) (fun _ => True) :=
 Opener.map (Opener.struct ti68 rfl (by simp [cellsOf_tok ti66, cellsOf_tok ti2]) (FOpener.cons stamp_opener ti66 (.cons i64_opener ti2 .nil))) (fun a => (a.1.1, a.1.2, a.2.1)) fun a _ => ⟨rfl, trivial⟩
theorem note_opener : Opener Tryz.prog 72 NoteV (fun _ => True) :=
 Opener.map (Opener.struct ti72 rfl (by simp [cellsOf_tok ti2, cellsOf_tok ti3, cellsOf_tok ti68, cellsOf_tok ti31]) (FOpener.cons i64_opener ti2 (.cons request_opener ti68 (.cons int_opener ti3 (.cons look_opener ti31 .nil)))))
  (fun a => ⟨a.1, a.2.1.1, a.2.1.2.1, a.2.1.2.2, a.2.2.1, a.2.2.2.1.1, a.2.2.2.1.2⟩) fun a _ => ⟨rfl, trivial⟩
theorem notes_opener : Opener Tryz.prog 29 NotesV (fun l => l.length < 4611686018427387904) := by
 refine Opener.map (.sliceB Tryz.underlying29 note_opener ti72 (by decide)) id fun a h => ⟨rfl, ?_⟩
 have := h.1
 simp only [reachBytes] at this
 show a.length < _
 omega
end Go.Ab
namespace Go.Ab
open Go Go.Proofs Go.RowKit Go.ChangeShapes Go.WideShapes Go.ChangeAt
theorem code_opener : Opener Tryz.prog 49 (fun n : Int => .c (.int .i64 n)) (fun n => -9223372036854775808 ≤ n ∧ n < 9223372036854775808) :=
 Opener.map (.int Tryz.underlying49) id fun n h => ⟨rfl, wf_i64 h⟩
theorem outcome_opener : Opener Tryz.prog 70 (fun x : Int × Int × Int => OutA ⟨x.1, x.2.1, x.2.2⟩) (fun _ => True) :=
 Opener.map (Opener.struct ti70 rfl (by simp [cellsOf_tok ti66, cellsOf_tok ti49]) (FOpener.cons stamp_opener ti66 (.cons code_opener ti49 .nil))) (fun a => (a.1.1, a.1.2, a.2.1)) fun a _ => ⟨rfl, trivial⟩
theorem map_eq_list {α β : Type} {f : α → AV} {g : α → β} {h : β → AV} (e : ∀ a, f a = h (g a)) (l : List α) : l.map f = (l.map g).map h := by
 rw [List.map_map]; exact List.map_congr_left fun a _ => e a
theorem reqs_opener : Opener Tryz.prog 27 (fun l : List ReqD => .l 3 (l.map ReqA)) (fun _ => True) := by
 refine Opener.map (.sliceB Tryz.underlying27 request_opener ti68 (by decide)) (fun l : List (Int × Int × Int) => l.map fun x => (⟨x.1, x.2.1, x.2.2⟩ : ReqD)) fun l h => ⟨?_, trivial⟩
 exact congrArg (AV.l 3) (map_eq_list (g := fun x : Int × Int × Int => (⟨x.1, x.2.1, x.2.2⟩ : ReqD)) (h := ReqA) (fun a => rfl) l)
theorem outs_opener : Opener Tryz.prog 28 (fun l : List OutD => .l 3 (l.map OutA)) (fun _ => True) := by
 refine Opener.map (.sliceB Tryz.underlying28 outcome_opener ti70 (by decide)) (fun l : List (Int × Int × Int) => l.map fun x => (⟨x.1, x.2.1, x.2.2⟩ : OutD)) fun l h => ⟨?_, trivial⟩
 exact congrArg (AV.l 3) (map_eq_list (g := fun x : Int × Int × Int => (⟨x.1, x.2.1, x.2.2⟩ : OutD)) (h := OutA) (fun a => rfl) l)
theorem bools_opener : Opener Tryz.prog 32 (fun l : List Bool => .l 1 (l.map encO)) (fun _ => True) := by
 refine Opener.map (.sliceB Tryz.underlying32 (.bool Tryz.underlying4) ti4 (by decide)) id fun l h => ⟨rfl, trivial⟩
theorem ints_opener : Opener Tryz.prog 33 (fun l : List Int => .l 1 (l.map encI)) (fun _ => True) := by
 refine Opener.map (.sliceB Tryz.underlying33 i64_opener ti2 (by decide)) id fun l h => ⟨rfl, trivial⟩
theorem audit_openerB : Opener Tryz.prog 35 AudV (fun _ => True) :=
 Opener.map (Opener.struct ti35 rfl (by simp [cellsOf_tok ti31, cellsOf_tok ti32, cellsOf_tok ti33, cellsOf_tok ti4])
  (FOpener.cons look_opener ti31 (.cons bools_opener ti32 (.cons ints_opener ti33 (.cons ints_opener ti33 (.cons (.bool Tryz.underlying4) ti4 .nil))))))
  (fun a => ⟨a.1.1, a.1.2, a.2.1, a.2.2.1, a.2.2.2.1, a.2.2.2.2.1⟩) fun a _ => ⟨rfl, trivial⟩
theorem book_opener : Opener Tryz.prog 37 BookV (fun k => Wide k.r) :=
 Opener.map (Opener.struct ti37 rfl (by simp [cellsOf_tok ti2, cellsOf_tok ti3, cellsOf_tok ti26, cellsOf_tok ti27, cellsOf_tok ti28, cellsOf_tok ti29, cellsOf_tok ti35])
  (FOpener.cons i64_opener ti2 (.cons books_opener ti26 (.cons reqs_opener ti27 (.cons outs_opener ti28 (.cons int_opener ti3 (.cons notes_opener ti29 (.cons audit_openerB ti35 .nil))))))))
  (fun a => ⟨a.1, a.2.1, a.2.2.1, a.2.2.2.1, a.2.2.2.2.1, a.2.2.2.2.2.1, a.2.2.2.2.2.2.1⟩) fun a h => ⟨rfl, h.2.1⟩
end Go.Ab
namespace Go.Ab
open Go Go.Proofs Go.RowKit Go.ChangeShapes Go.WideShapes Go.ChangeAt
theorem wf_u16 {n : Int} (h : (Lit.int .u16 n).wf = true) : ∃ a : Nat, n = a ∧ a < 65536 := by
 simp only [Lit.wf, Bool.and_eq_true, decide_eq_true_eq, IntKind.min, IntKind.max, IntKind.signed, IntKind.bits] at h
 simp at h
 exact ⟨n.toNat, by omega, by omega⟩
theorem u16_opener : Opener Tryz.prog 47 (fun n : Nat => .c (.int .u16 n)) (fun n => n < 65536) :=
 Opener.map (.int Tryz.underlying47) (fun n => n.toNat) fun n h => by
  obtain ⟨a, rfl, ha⟩ := wf_u16 h
  exact ⟨rfl, by simpa using ha⟩
end Go.Ab
