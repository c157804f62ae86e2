/- Books: the document's Put. -/
import Derived.Test.YtkikaagieknpdaaGreatTBk1
import Derived.Test.YtkikaagieknpdaaGreatBk27
set_option linter.unusedSimpArgs false
set_option linter.unusedVariables false
set_option linter.constructorNameAsVariable false
set_option maxRecDepth 100000
open Nat (reduceAdd reduceMul reduceEqDiff reduceLeDiff)
open Int (reduceLE reduceLT reduceEq reduceNe)
namespace Go.Ab
open Go Go.Proofs Go.RowKit
def pL1 (k : BookD) (i : Nat) : List Int := [(k.l.length : Int)] ++ lineL (k.l.take i)
def pL2 (k : BookD) (i : Nat) : List Int := pL1 k k.l.length ++ [(k.o.length : Int)] ++ outsL (k.o.take i)
def pL3 (k : BookD) (i : Nat) : List Int := pL2 k k.o.length ++ [k.k] ++ notesL (k.n.take i)
def pL4 (k : BookD) : List Int := pL3 k k.n.length ++ [k.a.y, k.a.p]
def pL5 (k : BookD) (i : Nat) : List Int := pL4 k ++ triL k.a i
theorem pL1_succ {k : BookD} {i : Nat} (h : i < k.l.length) : pL1 k (i + 1) = pL1 k i ++ [(reqAt k.l i).t, (reqAt k.l i).a] := by
 simp only [pL1, lineL, flat_take _ h, List.append_assoc]; rfl
theorem pL2_succ {k : BookD} {i : Nat} (h : i < k.o.length) : pL2 k (i + 1) = pL2 k i ++ [(outAt k.o i).t, (outAt k.o i).c] := by
 simp only [pL2, outsL, flat_take _ h, List.append_assoc]; rfl
theorem pL3_succ {k : BookD} {i : Nat} (h : i < k.n.length) : pL3 k (i + 1) = pL3 k i ++ [(noteAt k.n i).ck, (noteAt k.n i).t, (noteAt k.n i).w, (noteAt k.n i).a, (noteAt k.n i).k, (noteAt k.n i).y, (noteAt k.n i).p] := by
 simp only [pL3, notesL, flat_take _ h, List.append_assoc]; rfl
theorem pL5_succ {k : BookD} {i : Nat} : pL5 k (i + 1) = pL5 k i ++ [flagI (k.a.told.getD i false), k.a.use.getD i 0, k.a.inc.getD i 0] := by
 simp only [pL5, triL_succ, List.append_assoc]
theorem pL1_len {k : BookD} {i : Nat} (h : i ≤ k.l.length) : (pL1 k i).length = 1 + 2 * i := by
 simp only [pL1, List.length_append, List.length_cons, List.length_nil, lineL_len, List.length_take]; omega
theorem pL2_len {k : BookD} {i : Nat} (h : i ≤ k.o.length) : (pL2 k i).length = 2 + 2 * k.l.length + 2 * i := by
 simp only [pL2, List.length_append, List.length_cons, List.length_nil, outsL_len, List.length_take, pL1_len (Nat.le_refl _)]; omega
theorem pL3_len {k : BookD} {i : Nat} (h : i ≤ k.n.length) : (pL3 k i).length = 3 + 2 * k.l.length + 2 * k.o.length + 7 * i := by
 simp only [pL3, List.length_append, List.length_cons, List.length_nil, notesL_len, List.length_take, pL2_len (Nat.le_refl _)]; omega
theorem pL4_len {k : BookD} : (pL4 k).length = 5 + 2 * k.l.length + 2 * k.o.length + 7 * k.n.length := by
 simp only [pL4, List.length_append, List.length_cons, List.length_nil, pL3_len (Nat.le_refl _)]; omega
theorem pL5_len {k : BookD} {i : Nat} : (pL5 k i).length = 5 + 2 * k.l.length + 2 * k.o.length + 7 * k.n.length + 3 * i := by
 simp only [pL5, List.length_append, pL4_len, triL_len]
theorem pL_none {k : BookD} (h : NoneA k.a) : encN [k.ck] ++ encN (numsB k.r) ++ encN (pL4 k) = encBk k := by
 rw [encBk, ← encN_append, ← encN_append]
 simp only [numsK, audL, if_pos h, pL4, pL3, pL2, pL1, List.take_length, List.append_assoc, List.append_nil]
theorem pL_some {k : BookD} (h : ¬ NoneA k.a) : encN [k.ck] ++ encN (numsB k.r) ++ encN (pL5 k k.a.told.length ++ [flagI k.a.mv]) = encBk k := by
 rw [encBk, ← encN_append, ← encN_append]
 simp only [numsK, audL, if_neg h, pL5, pL4, pL3, pL2, pL1, List.take_length, List.append_assoc]
theorem map_snoc2 {xs : List Int} {a b : Int} {ys : List Int} (h : ys = xs ++ [a, b]) : xs.map encI ++ [.c (.int .i64 a), .c (.int .i64 b)] = ys.map encI := by subst h; rw [List.map_append]; rfl
def Mbk (k : BookD) : List AV := [.g [.c (.int .i64 k.ck), .l 3 (k.r.map RowV), .l 3 (k.l.map ReqA), .l 3 (k.o.map OutA), .c (.int .i64 k.k), .l 7 (k.n.map NoteV), .c (.int .i64 k.a.y), .c (.int .i64 k.a.p), .l 1 (k.a.told.map encO), .l 1 (k.a.use.map encI), .l 1 (k.a.inc.map encI), .c (.bool k.a.mv)]]
set_option maxHeartbeats 16000000 in
theorem rbkput_call (k : BookD) (hs : SmallK k) : PCall Tryz.prog 12 [BookV k] (Bs (encBk k)) := by
 obtain ⟨s1, s2, s3, s4, s5, s6, s7, s8⟩ := hs
 refine pcall_body tabOk Tryz.func12 rfl rfl (by rw [Tryz.ntmps12]; simp) ?_
 simp only [Tryz.ntmps12, BookV]
 have n1 := encN_len [k.ck]
 have n2 := encN_len (numsB k.r)
 simp only [List.length_cons, List.length_nil] at n1
 obtain ⟨b1, h1⟩ : ∃ b, b = encN [k.ck] := ⟨_, rfl⟩
 obtain ⟨b2, h2⟩ : ∃ b, b = encN [k.ck] ++ encN (numsB k.r) := ⟨_, rfl⟩
 have l1 : b1.length ≤ 10 := by rw [h1]; omega
 have l2 : b2.length ≤ 10 + 10 * (numsB k.r).length := by rw [h2, List.length_append]; omega
 have m1 := mrnums_call [] [k.ck] (by simp)
 rw [List.nil_append, ← h1] at m1
 have m2 := rpput_call b1 k.r (by omega) s2
 rw [h1, ← h2, ← h1] at m2
 simp only [↓wt, wz, reduceAdd, reduceMul, reduceEqDiff, reduceLeDiff, Nat.reduceLT, reduceLE, reduceLT, reduceEq, reduceNe]
 refine icall_drop [1] m1 ⟨arg_nil, arg_own (by simp) rfl rfl (pureI [k.ck]), trivial⟩ okR_Bs ?_
 simp only [↓wt, wz, reduceAdd, reduceMul, reduceEqDiff, reduceLeDiff, Nat.reduceLT, reduceLE, reduceLT, reduceEq, reduceNe, Bs, Cell]
 refine icall_drop [] m2 ⟨arg_l (pureB _), arg_books, trivial⟩ okR_Bs ?_
 simp only [↓wt, wz, reduceAdd, reduceMul, reduceEqDiff, reduceLeDiff, Nat.reduceLT, reduceLE, reduceLT, reduceEq, reduceNe, Bs, Cell]
 refine loop_ruleG tabOk [1, 3] (fun i : Nat => [(4, .s 2 0 (1 + 2 * i)), (5, .c (.int .i64 i))]) (fun i => ⟨[(0, ⟨37, 12, Mbk k⟩), (2, ⟨2, 1, (pL1 k i).map encI⟩)], 3⟩) (fun i => i ≤ k.l.length) (fun i => k.l.length - i) 0 (by omega) (fun _ => Nat.le_refl _) ?_ ?_
 · simp only [↓wt, wz, wkf, reduceAdd, reduceMul, reduceEqDiff, reduceLeDiff, Nat.reduceLT, reduceLE, reduceLT, reduceEq, reduceNe, Bs, Mbk, underL_R, underL_Q, underL_U, underL_N, underL_O, underL_I]
   try trivial
 intro i hi
 have e3 := wi_succ (k := i) (by omega)
 have hln := pL1_len hi
 simp only [↓wt, wz, reduceAdd, reduceMul, reduceEqDiff, reduceLeDiff, Nat.reduceLT, reduceLE, reduceLT, reduceEq, reduceNe, Bs, Mbk]
 cases f0 : decide ((i : Int) < (k.l.length : Int))
 rotate_left
 · have hil : i < k.l.length := by have := of_decide_eq_true f0; omega
   have h5 := map_snoc2 (pL1_succ hil)
   have h6 : 1 + 2 * (i + 1) = 1 + 2 * i + 2 := by omega
   simp only [↓wt, wz, reduceAdd, reduceMul, reduceEqDiff, reduceLeDiff, Nat.reduceLT, reduceLE, reduceLT, reduceEq, reduceNe, f0]
   refine draw_rule tabOk mixed [0, 0, 2, 0, 2, 0, 0, 2, 0, 2, 0, 2, 0, 2, 0, 1, 0] [[], [], [1], [], [1, 2, 3], [1, 2, 3, 4], [1, 2, 3, 4, 5], [1, 2, 3, 4, 5, 6], [], [8], [], [8, 9, 10], [8, 9, 10, 11], [8, 9, 10, 11, 12], [1, 2, 3, 4, 5, 6, 7, 8, 9, 10, 11, 12, 13], [0, 1, 2, 3, 4, 5, 6, 7, 8, 9, 10, 11, 12, 13, 14], [0, 1, 2, 3, 4, 5, 6, 7, 8, 9, 10, 11, 12, 13, 14, 15]] (by kernel_rfl) ?_
   simp only [↓wt, wz, reduceAdd, reduceMul, reduceEqDiff, reduceLeDiff, Nat.reduceLT, reduceLE, reduceLT, reduceEq, reduceNe, elem_Q, ReqA_eq, hln]
   repeat (refine And.intro (by omega) ?_)
   refine d_heavyX (by simp only [↓wt, wz, reduceAdd, reduceMul, reduceEqDiff, reduceLeDiff, Nat.reduceLT, reduceLE, reduceLT, reduceEq, reduceNe, hln, Cell]; (repeat (first | refine And.intro (by omega) ?_ | refine And.intro (pureB _) ?_ | refine And.intro (pureI _) ?_ | refine And.intro ⟨pureB _, pureB _⟩ ?_ | refine And.intro ⟨pureB _, pureI _⟩ ?_ | refine And.intro ⟨pureI _, pureB _⟩ ?_ | refine And.intro ⟨pureI _, pureI _⟩ ?_)); exact ⟨rfl, rfl⟩) ?_
   simp only [↓wt, wz, reduceAdd, reduceMul, reduceEqDiff, reduceLeDiff, Nat.reduceLT, reduceLE, reduceLT, reduceEq, reduceNe, e3]
   refine ⟨i + 1, by omega, by omega, ?_⟩
   simp only [↓wt, wz, wkf, reduceAdd, reduceMul, reduceEqDiff, reduceLeDiff, Nat.reduceLT, reduceLE, reduceLT, reduceEq, reduceNe, Bs, Mbk, e3, h5, h6, underL_R, underL_Q, underL_U, underL_N, underL_O, underL_I]
   try trivial
 have hin : i = k.l.length := by have := of_decide_eq_false f0; omega
 subst hin
 simp only [↓wt, wz, reduceAdd, reduceMul, reduceEqDiff, reduceLeDiff, Nat.reduceLT, reduceLE, reduceLT, reduceEq, reduceNe, f0, hln, Cell]
 repeat (refine And.intro (by omega) ?_)
 refine loop_ruleG tabOk [1, 3] (fun i : Nat => [(4, .s 2 0 (2 + 2 * k.l.length + 2 * i)), (6, .c (.int .i64 i))]) (fun i => ⟨[(0, ⟨37, 12, Mbk k⟩), (2, ⟨2, 1, (pL2 k i).map encI⟩)], 4⟩) (fun i => i ≤ k.o.length) (fun i => k.o.length - i) 0 (by omega) (fun _ => Nat.le_refl _) ?_ ?_
 · simp only [↓wt, wz, wkf, reduceAdd, reduceMul, reduceEqDiff, reduceLeDiff, Nat.reduceLT, reduceLE, reduceLT, reduceEq, reduceNe, Bs, Mbk, underL_R, underL_Q, underL_U, underL_N, underL_O, underL_I]
   have q2 : pL2 k 0 = pL1 k k.l.length ++ [(k.o.length : Int)] := by simp [pL2, outsL]
   exact ⟨by congr 1; omega, by rw [q2, List.map_append]; rfl⟩
 intro i hi
 have e3 := wi_succ (k := i) (by omega)
 have hln := pL2_len hi
 simp only [↓wt, wz, reduceAdd, reduceMul, reduceEqDiff, reduceLeDiff, Nat.reduceLT, reduceLE, reduceLT, reduceEq, reduceNe, Bs, Mbk]
 cases f1 : decide ((i : Int) < (k.o.length : Int))
 rotate_left
 · have hil : i < k.o.length := by have := of_decide_eq_true f1; omega
   have h5 := map_snoc2 (pL2_succ hil)
   have h6 : 2 + 2 * k.l.length + 2 * (i + 1) = 2 + 2 * k.l.length + 2 * i + 2 := by omega
   simp only [↓wt, wz, reduceAdd, reduceMul, reduceEqDiff, reduceLeDiff, Nat.reduceLT, reduceLE, reduceLT, reduceEq, reduceNe, f1]
   refine draw_rule tabOk mixed [0, 0, 2, 0, 2, 0, 0, 2, 0, 2, 0, 2, 0, 2, 0, 1, 0] [[], [], [1], [], [1, 2, 3], [1, 2, 3, 4], [1, 2, 3, 4, 5], [1, 2, 3, 4, 5, 6], [], [8], [], [8, 9, 10], [8, 9, 10, 11], [8, 9, 10, 11, 12], [1, 2, 3, 4, 5, 6, 7, 8, 9, 10, 11, 12, 13], [0, 1, 2, 3, 4, 5, 6, 7, 8, 9, 10, 11, 12, 13, 14], [0, 1, 2, 3, 4, 5, 6, 7, 8, 9, 10, 11, 12, 13, 14, 15]] (by kernel_rfl) ?_
   simp only [↓wt, wz, reduceAdd, reduceMul, reduceEqDiff, reduceLeDiff, Nat.reduceLT, reduceLE, reduceLT, reduceEq, reduceNe, elem_U, OutA_eq, hln]
   repeat (refine And.intro (by omega) ?_)
   refine d_heavyX (by simp only [↓wt, wz, reduceAdd, reduceMul, reduceEqDiff, reduceLeDiff, Nat.reduceLT, reduceLE, reduceLT, reduceEq, reduceNe, hln, Cell]; (repeat (first | refine And.intro (by omega) ?_ | refine And.intro (pureB _) ?_ | refine And.intro (pureI _) ?_ | refine And.intro ⟨pureB _, pureB _⟩ ?_ | refine And.intro ⟨pureB _, pureI _⟩ ?_ | refine And.intro ⟨pureI _, pureB _⟩ ?_ | refine And.intro ⟨pureI _, pureI _⟩ ?_)); exact ⟨rfl, rfl⟩) ?_
   simp only [↓wt, wz, reduceAdd, reduceMul, reduceEqDiff, reduceLeDiff, Nat.reduceLT, reduceLE, reduceLT, reduceEq, reduceNe, e3]
   refine ⟨i + 1, by omega, by omega, ?_⟩
   simp only [↓wt, wz, wkf, reduceAdd, reduceMul, reduceEqDiff, reduceLeDiff, Nat.reduceLT, reduceLE, reduceLT, reduceEq, reduceNe, Bs, Mbk, e3, h5, h6, underL_R, underL_Q, underL_U, underL_N, underL_O, underL_I]
   try trivial
 have hin : i = k.o.length := by have := of_decide_eq_false f1; omega
 subst hin
 simp only [↓wt, wz, reduceAdd, reduceMul, reduceEqDiff, reduceLeDiff, Nat.reduceLT, reduceLE, reduceLT, reduceEq, reduceNe, f1, hln, Cell]
 repeat (refine And.intro (by omega) ?_)
 refine loop_ruleG tabOk [1, 3] (fun i : Nat => [(4, .s 2 0 (3 + 2 * k.l.length + 2 * k.o.length + 7 * i)), (7, .c (.int .i64 i))]) (fun i => ⟨[(0, ⟨37, 12, Mbk k⟩), (2, ⟨2, 1, (pL3 k i).map encI⟩)], 5⟩) (fun i => i ≤ k.n.length) (fun i => k.n.length - i) 0 (by omega) (fun _ => Nat.le_refl _) ?_ ?_
 · simp only [↓wt, wz, wkf, reduceAdd, reduceMul, reduceEqDiff, reduceLeDiff, Nat.reduceLT, reduceLE, reduceLT, reduceEq, reduceNe, Bs, Mbk, underL_R, underL_Q, underL_U, underL_N, underL_O, underL_I]
   have q3 : pL3 k 0 = pL2 k k.o.length ++ [k.k] := by simp [pL3, notesL]
   exact ⟨by congr 1; omega, by rw [q3, List.map_append]; rfl⟩
 intro i hi
 have e3 := wi_succ (k := i) (by omega)
 have hln := pL3_len hi
 simp only [↓wt, wz, reduceAdd, reduceMul, reduceEqDiff, reduceLeDiff, Nat.reduceLT, reduceLE, reduceLT, reduceEq, reduceNe, Bs, Mbk]
 cases f2 : decide ((i : Int) < (k.n.length : Int))
 rotate_left
 · have hil : i < k.n.length := by have := of_decide_eq_true f2; omega
   have h5 : (pL3 k i).map encI ++ [.c (.int .i64 (noteAt k.n i).ck), .c (.int .i64 (noteAt k.n i).t), .c (.int .i64 (noteAt k.n i).w), .c (.int .i64 (noteAt k.n i).a), .c (.int .i64 (noteAt k.n i).k), .c (.int .i64 (noteAt k.n i).y), .c (.int .i64 (noteAt k.n i).p)] = (pL3 k (i + 1)).map encI := by rw [pL3_succ hil, List.map_append]; rfl
   have h6 : 3 + 2 * k.l.length + 2 * k.o.length + 7 * (i + 1) = 3 + 2 * k.l.length + 2 * k.o.length + 7 * i + 7 := by omega
   simp only [↓wt, wz, reduceAdd, reduceMul, reduceEqDiff, reduceLeDiff, Nat.reduceLT, reduceLE, reduceLT, reduceEq, reduceNe, f2, elem_N, NoteV_eq, hln, Cell]
   repeat (refine And.intro (by omega) ?_)
   simp only [↓wt, wz, reduceAdd, reduceMul, reduceEqDiff, reduceLeDiff, Nat.reduceLT, reduceLE, reduceLT, reduceEq, reduceNe, e3]
   refine ⟨i + 1, by omega, by omega, ?_⟩
   simp only [↓wt, wz, wkf, reduceAdd, reduceMul, reduceEqDiff, reduceLeDiff, Nat.reduceLT, reduceLE, reduceLT, reduceEq, reduceNe, Bs, Mbk, e3, h5, h6, underL_R, underL_Q, underL_U, underL_N, underL_O, underL_I]
   try trivial
 have hin : i = k.n.length := by have := of_decide_eq_false f2; omega
 subst hin
 simp only [↓wt, wz, reduceAdd, reduceMul, reduceEqDiff, reduceLeDiff, Nat.reduceLT, reduceLE, reduceLT, reduceEq, reduceNe, f2, hln, Cell]
 repeat (refine And.intro (by omega) ?_)
 have h4 : (pL3 k k.n.length).map encI ++ [.c (.int .i64 k.a.y), .c (.int .i64 k.a.p)] = (pL4 k).map encI := by rw [pL4, List.map_append]; rfl
 have hl4 := pL4_len (k := k)
 refine icall_drop [] (rnone_call k.a) ⟨arg_aud, trivial⟩ (.c _) ?_
 cases f3 : decide (NoneA k.a)
 rotate_left
 · have m3 := mrnums_call b2 (pL4 k) (by omega)
   rw [h2, pL_none (of_decide_eq_true f3), ← h2] at m3
   simp only [↓wt, wz, reduceAdd, reduceMul, reduceEqDiff, reduceLeDiff, Nat.reduceLT, reduceLE, reduceLT, reduceEq, reduceNe, f3, h4]
   refine icall_drop [2] m3 ⟨arg_l (pureB _), arg_own (by simp) rfl (by rw [List.length_map]; omega) (pureI (pL4 k)), trivial⟩ okR_Bs ?_
   simp only [↓wt, wz, reduceAdd, reduceMul, reduceEqDiff, reduceLeDiff, Nat.reduceLT, reduceLE, reduceLT, reduceEq, reduceNe, Bs, Tryz.results12]
   exact exp_self (.l _ _ (pureB _))
 have hnn := of_decide_eq_false f3
 simp only [↓wt, wz, reduceAdd, reduceMul, reduceEqDiff, reduceLeDiff, Nat.reduceLT, reduceLE, reduceLT, reduceEq, reduceNe, f3, h4]
 refine loop_ruleG tabOk [3, 9] (fun i : Nat => [(4, .s 2 0 (5 + 2 * k.l.length + 2 * k.o.length + 7 * k.n.length + 3 * i)), (10, .c (.int .i64 i))]) (fun i => ⟨[(0, ⟨37, 12, Mbk k⟩), (2, ⟨2, 1, (pL5 k i).map encI⟩), (5, ⟨35, 6, [AudV k.a]⟩)], 7⟩) (fun i => i ≤ k.a.told.length) (fun i => k.a.told.length - i) 0 (by omega) (fun _ => Nat.le_refl _) ?_ ?_
 · simp only [↓wt, wz, wkf, reduceAdd, reduceMul, reduceEqDiff, reduceLeDiff, Nat.reduceLT, reduceLE, reduceLT, reduceEq, reduceNe, Bs, Mbk, AudV, underL_R, underL_Q, underL_U, underL_N, underL_O, underL_I]
   have q3 : pL5 k 0 = pL4 k := by simp [pL5, triL]
   exact ⟨by congr 1; omega, by rw [q3]⟩
 intro i hi
 have e3 := wi_succ (k := i) (by omega)
 have hln := pL5_len (k := k) (i := i)
 have h5 : (pL5 k i).map encI ++ [.c (.int .i64 (flagI (k.a.told.getD i false))), .c (.int .i64 (k.a.use.getD i 0)), .c (.int .i64 (k.a.inc.getD i 0))] = (pL5 k (i + 1)).map encI := by rw [pL5_succ, List.map_append]; rfl
 have h6 : 5 + 2 * k.l.length + 2 * k.o.length + 7 * k.n.length + 3 * (i + 1) = 5 + 2 * k.l.length + 2 * k.o.length + 7 * k.n.length + 3 * i + 3 := by omega
 have hz : ∀ l : List Int, ¬ i < l.length → l.getD i 0 = 0 := fun l h => by rw [List.getD_eq_getElem?_getD, List.getElem?_eq_none (by omega)]; rfl
 simp only [↓wt, wz, reduceAdd, reduceMul, reduceEqDiff, reduceLeDiff, Nat.reduceLT, reduceLE, reduceLT, reduceEq, reduceNe, Bs, Mbk, AudV]
 cases f4 : decide ((i : Int) < (k.a.told.length : Int))
 rotate_left
 · have hil : i < k.a.told.length := by have := of_decide_eq_true f4; omega
   cases f5 : decide ((i : Int) < (k.a.use.length : Int)) <;> cases f6 : decide ((i : Int) < (k.a.inc.length : Int))
   · rw [hz k.a.use (by have := of_decide_eq_false f5; omega), hz k.a.inc (by have := of_decide_eq_false f6; omega)] at h5
     simp only [↓wt, wz, reduceAdd, reduceMul, reduceEqDiff, reduceLeDiff, Nat.reduceLT, reduceLE, reduceLT, reduceEq, reduceNe, f4, f5, f6, elem_O]
     repeat (refine And.intro (by omega) ?_)
     refine icall_drop [] (rone_call _) ⟨arg_c, trivial⟩ (.c _) ?_
     simp only [↓wt, wz, reduceAdd, reduceMul, reduceEqDiff, reduceLeDiff, Nat.reduceLT, reduceLE, reduceLT, reduceEq, reduceNe, hln, Cell]
     repeat (refine And.intro (by omega) ?_)
     simp only [↓wt, wz, reduceAdd, reduceMul, reduceEqDiff, reduceLeDiff, Nat.reduceLT, reduceLE, reduceLT, reduceEq, reduceNe, e3]
     refine ⟨i + 1, by omega, by omega, ?_⟩
     simp only [↓wt, wz, wkf, reduceAdd, reduceMul, reduceEqDiff, reduceLeDiff, Nat.reduceLT, reduceLE, reduceLT, reduceEq, reduceNe, Bs, Mbk, AudV, e3, h5, h6, underL_R, underL_Q, underL_U, underL_N, underL_O, underL_I]
     try trivial
   · rw [hz k.a.use (by have := of_decide_eq_false f5; omega)] at h5
     have d6 := of_decide_eq_true f6
     simp only [↓wt, wz, reduceAdd, reduceMul, reduceEqDiff, reduceLeDiff, Nat.reduceLT, reduceLE, reduceLT, reduceEq, reduceNe, f4, f5, f6, elem_O, elem_I]
     repeat (refine And.intro (by omega) ?_)
     refine icall_drop [] (rone_call _) ⟨arg_c, trivial⟩ (.c _) ?_
     simp only [↓wt, wz, reduceAdd, reduceMul, reduceEqDiff, reduceLeDiff, Nat.reduceLT, reduceLE, reduceLT, reduceEq, reduceNe, hln, Cell]
     repeat (refine And.intro (by omega) ?_)
     simp only [↓wt, wz, reduceAdd, reduceMul, reduceEqDiff, reduceLeDiff, Nat.reduceLT, reduceLE, reduceLT, reduceEq, reduceNe, e3]
     refine ⟨i + 1, by omega, by omega, ?_⟩
     simp only [↓wt, wz, wkf, reduceAdd, reduceMul, reduceEqDiff, reduceLeDiff, Nat.reduceLT, reduceLE, reduceLT, reduceEq, reduceNe, Bs, Mbk, AudV, e3, h5, h6, underL_R, underL_Q, underL_U, underL_N, underL_O, underL_I]
     try trivial
   · rw [hz k.a.inc (by have := of_decide_eq_false f6; omega)] at h5
     have d5 := of_decide_eq_true f5
     simp only [↓wt, wz, reduceAdd, reduceMul, reduceEqDiff, reduceLeDiff, Nat.reduceLT, reduceLE, reduceLT, reduceEq, reduceNe, f4, f5, f6, elem_O, elem_I]
     repeat (refine And.intro (by omega) ?_)
     refine icall_drop [] (rone_call _) ⟨arg_c, trivial⟩ (.c _) ?_
     simp only [↓wt, wz, reduceAdd, reduceMul, reduceEqDiff, reduceLeDiff, Nat.reduceLT, reduceLE, reduceLT, reduceEq, reduceNe, hln, Cell]
     repeat (refine And.intro (by omega) ?_)
     simp only [↓wt, wz, reduceAdd, reduceMul, reduceEqDiff, reduceLeDiff, Nat.reduceLT, reduceLE, reduceLT, reduceEq, reduceNe, e3]
     refine ⟨i + 1, by omega, by omega, ?_⟩
     simp only [↓wt, wz, wkf, reduceAdd, reduceMul, reduceEqDiff, reduceLeDiff, Nat.reduceLT, reduceLE, reduceLT, reduceEq, reduceNe, Bs, Mbk, AudV, e3, h5, h6, underL_R, underL_Q, underL_U, underL_N, underL_O, underL_I]
     try trivial
   · have d5 := of_decide_eq_true f5
     have d6 := of_decide_eq_true f6
     simp only [↓wt, wz, reduceAdd, reduceMul, reduceEqDiff, reduceLeDiff, Nat.reduceLT, reduceLE, reduceLT, reduceEq, reduceNe, f4, f5, f6, elem_O, elem_I]
     repeat (refine And.intro (by omega) ?_)
     refine icall_drop [] (rone_call _) ⟨arg_c, trivial⟩ (.c _) ?_
     simp only [↓wt, wz, reduceAdd, reduceMul, reduceEqDiff, reduceLeDiff, Nat.reduceLT, reduceLE, reduceLT, reduceEq, reduceNe, hln, Cell]
     repeat (refine And.intro (by omega) ?_)
     simp only [↓wt, wz, reduceAdd, reduceMul, reduceEqDiff, reduceLeDiff, Nat.reduceLT, reduceLE, reduceLT, reduceEq, reduceNe, e3]
     refine ⟨i + 1, by omega, by omega, ?_⟩
     simp only [↓wt, wz, wkf, reduceAdd, reduceMul, reduceEqDiff, reduceLeDiff, Nat.reduceLT, reduceLE, reduceLT, reduceEq, reduceNe, Bs, Mbk, AudV, e3, h5, h6, underL_R, underL_Q, underL_U, underL_N, underL_O, underL_I]
     try trivial
 have hin : i = k.a.told.length := by have := of_decide_eq_false f4; omega
 subst hin
 simp only [↓wt, wz, reduceAdd, reduceMul, reduceEqDiff, reduceLeDiff, Nat.reduceLT, reduceLE, reduceLT, reduceEq, reduceNe, f4]
 refine icall_drop [] (rone_call _) ⟨arg_c, trivial⟩ (.c _) ?_
 have h7 : (pL5 k k.a.told.length).map encI ++ [.c (.int .i64 (flagI k.a.mv))] = (pL5 k k.a.told.length ++ [flagI k.a.mv]).map encI := by rw [List.map_append]; rfl
 have m3 := mrnums_call b2 (pL5 k k.a.told.length ++ [flagI k.a.mv]) (by simp only [List.length_append, List.length_cons, List.length_nil]; omega)
 rw [h2, pL_some hnn, ← h2] at m3
 simp only [↓wt, wz, reduceAdd, reduceMul, reduceEqDiff, reduceLeDiff, Nat.reduceLT, reduceLE, reduceLT, reduceEq, reduceNe, hln, Cell]
 repeat (refine And.intro (by omega) ?_)
 simp only [↓wt, wz, reduceAdd, reduceMul, reduceEqDiff, reduceLeDiff, Nat.reduceLT, reduceLE, reduceLT, reduceEq, reduceNe, h7]
 refine icall_drop [2] m3 ⟨arg_l (pureB _), arg_own (by simp) rfl (by rw [List.length_map, List.length_append, hln]; rfl) (pureI (pL5 k k.a.told.length ++ [flagI k.a.mv])), trivial⟩ okR_Bs ?_
 simp only [↓wt, wz, reduceAdd, reduceMul, reduceEqDiff, reduceLeDiff, Nat.reduceLT, reduceLE, reduceLT, reduceEq, reduceNe, Bs, Tryz.results12]
 exact exp_self (.l _ _ (pureB _))
end Go.Ab
