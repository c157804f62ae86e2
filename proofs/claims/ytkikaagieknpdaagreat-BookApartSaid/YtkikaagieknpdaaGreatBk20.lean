/- Books: a new one. -/
import Derived.Test.YtkikaagieknpdaaGreatTMl9
import Derived.Test.YtkikaagieknpdaaGreatTRt8
import Derived.Test.YtkikaagieknpdaaGreatTMl9
set_option linter.unusedSimpArgs false
set_option linter.unusedVariables false
set_option linter.constructorNameAsVariable false
set_option maxRecDepth 100000
open Nat (reduceAdd reduceMul reduceEqDiff reduceLeDiff)
open Int (reduceLE reduceLT reduceEq reduceNe)
namespace Go.Ab
open Go Go.Proofs Go.RowKit
def newK (c : Conf) (who : Int) : BookD × Int := if ThereC c who then (⟨0, newB c, [], [], 0, List.replicate c.n.toNat note0, aud00⟩, 0) else (k00, 1)
theorem xC_c {M : Mem} {v : Value} : ∃ f, ExpC M (.c v) (.c v) [] f := xC_pure (.refl _) (.c _)
theorem xA_k00 {M : Mem} : ∃ f, ExpA M zeroK (BookV k00) [] f :=
 xA_g (xL_cons xC_c (xL_cons (xC_pure trivial okR_nil) (xL_cons (xC_pure trivial okR_nil) (xL_cons (xC_pure trivial okR_nil) (xL_cons xC_c (xL_cons (xC_pure trivial okR_nil) (xL_cons xC_c (xL_cons xC_c (xL_cons (xC_pure trivial okR_nil) (xL_cons (xC_pure trivial okR_nil) (xL_cons (xC_pure trivial okR_nil) (xL_cons xC_c xL_nil))))))))))))
theorem xA_new {M : Mem} {r : List RowD} {n : List NoteD} : ∃ f, ExpA M (.g [.c (.int .i64 0), .l 3 (r.map RowV), .c (.slice none 0 0), .c (.slice none 0 0), .c (.int .i64 0), .l 7 (n.map NoteV), .c (.int .i64 0), .c (.int .i64 0), .c (.slice none 0 0), .c (.slice none 0 0), .c (.slice none 0 0), .c (.bool false)]) (BookV ⟨0, r, [], [], 0, n, aud00⟩) [] f :=
 xA_g (xL_cons xC_c (xL_cons (xC_pure (.refl _) (.l _ _ (pureR _))) (xL_cons (xC_pure trivial okR_nil) (xL_cons (xC_pure trivial okR_nil) (xL_cons xC_c (xL_cons (xC_pure (.refl _) (.l _ _ (pureN _))) (xL_cons xC_c (xL_cons xC_c (xL_cons (xC_pure trivial okR_nil) (xL_cons (xC_pure trivial okR_nil) (xL_cons (xC_pure trivial okR_nil) (xL_cons xC_c xL_nil))))))))))))
set_option maxHeartbeats 2000000 in
theorem bknew_call (c : Conf) (who : Int) : PCall Tryz.prog 18 [ConfA c, .c (.int .i64 who)] (.t [BookV (newK c who).1, .c (.int .i64 (newK c who).2)]) := by
 refine pcall_body tabOk Tryz.func18 rfl rfl (by rw [Tryz.ntmps18]; simp) ?_
 simp only [Tryz.ntmps18, ConfA]
 simp only [↓wt, wz, reduceAdd, reduceMul, reduceEqDiff, reduceLeDiff, Nat.reduceLT, reduceLE, reduceLT, reduceEq, reduceNe]
 refine icall_drop [] (bthere_call c who) ⟨arg_conf', arg_c, trivial⟩ (.c _) ?_
 cases hth : decide (ThereC c who)
 · simp only [↓wt, wz, reduceAdd, reduceMul, reduceEqDiff, reduceLeDiff, Nat.reduceLT, reduceLE, reduceLT, reduceEq, reduceNe, hth, Tryz.results18]
   rw [newK, if_neg (of_decide_eq_false hth)]
   exact exp_tA (xT_cons xA_k00 (xT_cons xA_c xT_nil))
 have ht := of_decide_eq_true hth
 have hn : 1 ≤ c.n ∧ c.n ≤ 16 := ht.1.1
 obtain ⟨n, hcn⟩ : ∃ n : Nat, c.n = n := ⟨c.n.toNat, by omega⟩
 have hnb : n ≤ 16 := by omega
 simp only [↓wt, wz, reduceAdd, reduceMul, reduceEqDiff, reduceLeDiff, Nat.reduceLT, reduceLE, reduceLT, reduceEq, reduceNe, hth]
 refine draw_rule tabOk mixed [2, 3, 0, 2, 3, 1, 1, 0] [[], [0], [], [2], [2, 3], [0, 1, 2, 3, 4], [0, 1, 2, 3, 4, 5], [0, 1, 2, 3, 4, 5, 6]] (by kernel_rfl) ?_
 simp only [↓wt, wz, reduceAdd, reduceMul, reduceEqDiff, reduceLeDiff, Nat.reduceLT, reduceLE, reduceLT, reduceEq, reduceNe]
 refine d_pureC (r := BooksV (newB c)) (fun M0 => icall_drop [] (new_call c) ⟨arg_conf', trivial⟩ (.l _ _ (pureR _)) ⟨rfl, rfl⟩) ?_
 simp only [↓wt, wz, reduceAdd, reduceMul, reduceEqDiff, reduceLeDiff, Nat.reduceLT, reduceLE, reduceLT, reduceEq, reduceNe, BooksV]
 refine d_pureX (fun M0 => by simp only [↓wt, wz, reduceAdd, reduceMul, reduceEqDiff, reduceLeDiff, Nat.reduceLT, reduceLE, reduceLT, reduceEq, reduceNe, zx_make]; exact ⟨rfl, .inr (by decide), by omega, by dsimp only; omega, by omega, rfl, rfl⟩) ?_
 simp only [↓wt, wz, reduceAdd, reduceMul, reduceEqDiff, reduceLeDiff, Nat.reduceLT, reduceLE, reduceLT, reduceEq, reduceNe]
 refine d_heavyX (by simp only [↓wt, wz, reduceAdd, reduceMul, reduceEqDiff, reduceLeDiff, Nat.reduceLT, reduceLE, reduceLT, reduceEq, reduceNe]; (repeat (first | refine And.intro (by omega) ?_ | refine And.intro (pureB _) ?_ | refine And.intro (pureI _) ?_ | refine And.intro ⟨pureB _, pureB _⟩ ?_ | refine And.intro ⟨pureB _, pureI _⟩ ?_ | refine And.intro ⟨pureI _, pureB _⟩ ?_ | refine And.intro ⟨pureI _, pureI _⟩ ?_)); exact ⟨rfl, rfl⟩) ?_
 simp only [↓wt, wz, reduceAdd, reduceMul, reduceEqDiff, reduceLeDiff, Nat.reduceLT, reduceLE, reduceLT, reduceEq, reduceNe]
 refine d_heavyX (by simp only [↓wt, wz, reduceAdd, reduceMul, reduceEqDiff, reduceLeDiff, Nat.reduceLT, reduceLE, reduceLT, reduceEq, reduceNe, Cell]; (repeat (first | refine And.intro (by omega) ?_ | refine And.intro (pureB _) ?_ | refine And.intro (pureI _) ?_ | refine And.intro ⟨pureB _, pureB _⟩ ?_ | refine And.intro ⟨pureB _, pureI _⟩ ?_ | refine And.intro ⟨pureI _, pureB _⟩ ?_ | refine And.intro ⟨pureI _, pureI _⟩ ?_)); exact ⟨rfl, rfl⟩) ?_
 simp only [↓wt, wz, reduceAdd, reduceMul, reduceEqDiff, reduceLeDiff, Nat.reduceLT, reduceLE, reduceLT, reduceEq, reduceNe, Tryz.results18]
 have e1 : List.replicate c.n.toNat (AV.g [.c (.int .i64 0), .c (.int .i64 0), .c (.int .i64 0), .c (.int .i64 0), .c (.int .i64 0), .c (.int .i64 0), .c (.int .i64 0)]) = (List.replicate c.n.toNat note0).map NoteV := by rw [List.map_replicate]; rfl
 rw [e1, newK, if_pos ht]
 exact exp_tA (xT_cons xA_new (xT_cons xA_c xT_nil))
end Go.Ab
