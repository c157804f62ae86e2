/- Books: an audit, as it is read. -/
import Derived.Test.YtkikaagieknpdaaGreatBk5
set_option linter.unusedSimpArgs false
set_option linter.unusedVariables false
set_option linter.constructorNameAsVariable false
set_option maxRecDepth 100000
open Nat (reduceAdd reduceMul reduceEqDiff reduceLeDiff)
open Int (reduceLE reduceLT reduceEq reduceNe)
namespace Go.Ab
open Go Go.Proofs Go.RowKit
variable {pf : Value → Mem → Prop}
def ViewAs (M : Mem) (ids : List Nat) (a b : AV) : Prop := VOkA M a ∧ (∀ k ∈ idsA a, k ∈ ids) ∧ Weak (viewA M a) b ∧ Under 0 b
def KeepM (M : Mem) (ids : List Nat) (M' : Mem) : Prop := memFit (M.without ids) M'.k M'.l
theorem ICallG.trimV {P : Program} {f : FuncId} {args : List AV} {M : Mem} {K : AV → Mem → Prop} (h : ICallG pf P f args M (fun a M1 => ∃ (ids : List Nat) (M' : Mem) (a' : AV), M.k ≤ M'.k ∧ ViewAs M1 ids a a' ∧ KeepM M1 ids M' ∧ K a' M')) : ICallG pf P f args M K :=
 ⟨h.1, fun w0 E vs h1 h2 h3 => Calls.mono' (h.2 w0 E vs h1 h2 h3) fun _ _ hp => hp.imp (fun ⟨v, E', M1, a, e1, e2, g, l, r, ids, M', a', k1, ⟨v1, v2, v3, v4⟩, k3, k4⟩ => by
  obtain ⟨g1, l1⟩ := g.without ids
  have r1 : Rep (E'.without ids) a' v := v3.rep (rep_viewA g r v1 v2)
  have hz : ∀ b, (E'.without ids).Z b → ((E'.without ids).keep (fun i => (M'.get i).isSome) M'.k).Z b ∧ ((E'.without ids).keep (fun i => (M'.get i).isSome) M'.k).w.heap[b]? = (E'.without ids).w.heap[b]? := fun b hb => by
   refine ⟨⟨hb.1, hb.2.1, fun i q hq hcp => ?_⟩, rfl⟩
   simp only [Env.keep] at hq
   split at hq
   · exact hb.2.2 i q hq hcp
   · cases hq
  exact ⟨v, (E'.without ids).keep (fun i => (M'.get i).isSome) M'.k, M', a', e1, e2, g1.keep k3, (l.trans l1).keep' _ (by rw [← h1.k]; exact k1), r1.pure hz v4, k4⟩) id⟩
theorem arg_audE {M : Mem} {ids : List Nat} {y p : Int} {told : List Bool} {use inc : List Int} {mv : Bool} {a b c : AV} (ha : ArgC M ids a (.l 1 (told.map encO))) (hb : ArgC M ids b (.l 1 (use.map encI))) (hc : ArgC M ids c (.l 1 (inc.map encI))) :
 VOkA M (.g [.c (.int .i64 y), .c (.int .i64 p), a, b, c, .c (.bool mv)]) ∧ (∀ k ∈ idsA (.g [.c (.int .i64 y), .c (.int .i64 p), a, b, c, .c (.bool mv)]), k ∈ ids) ∧
  Weak (viewA M (.g [.c (.int .i64 y), .c (.int .i64 p), a, b, c, .c (.bool mv)])) (AudV ⟨y, p, told, use, inc, mv⟩) ∧ Under 0 (AudV ⟨y, p, told, use, inc, mv⟩) :=
 arg_gL (l := [.c (.int .i64 y), .c (.int .i64 p), a, b, c, .c (.bool mv)]) (m := [.c (.int .i64 y), .c (.int .i64 p), .l 1 (told.map encO), .l 1 (use.map encI), .l 1 (inc.map encI), .c (.bool mv)]) ⟨argC_c, argC_c, ha, hb, hc, argC_c, trivial⟩
theorem look_eq0 {M : Mem} {K : AV → Mem → Prop} {y p : Int} : aggBinK Tryz.prog 31 M [.c (.int .i64 y), .c (.int .i64 p)] [.c (.int .i64 0), .c (.int .i64 0)] K .eql = K (.c (.bool (decide (y = 0 ∧ p = 0)))) M := look_eql
theorem tri_len : ∀ b r x, triP b = some (x, r) → r.length ≤ b.length := fun b r x h => by
 obtain ⟨_, _, h1, h⟩ := bindP_some h
 obtain ⟨_, _, h2, h⟩ := bindP_some h
 obtain ⟨_, _, h3, h⟩ := bindP_some h
 have := rd_len h1
 have := rd_len h2
 have := rd_len h3
 cases h; omega
def AuM (s : List UInt8) (y p : Int) (l : List (Int × Int × Int)) : Mem :=
 ⟨[(0, RkB s), (1, ⟨35, 6, [.g [.c (.int .i64 0), .c (.int .i64 0), .c (.slice none 0 0), .c (.slice none 0 0), .c (.slice none 0 0), .c (.bool false)]]⟩),
  (2, ⟨35, 6, [.g [.c (.int .i64 y), .c (.int .i64 p), .s 3 0 l.length, .s 4 0 l.length, .s 5 0 l.length, .c (.bool false)]]⟩),
  (3, ⟨4, 1, (l.map fun x => decide (x.1 = 1)).map encO⟩), (4, ⟨2, 1, (l.map fun x => x.2.1).map encI⟩), (5, ⟨2, 1, (l.map fun x => x.2.2).map encI⟩)], 6⟩
set_option maxHeartbeats 4000000 in
theorem bkaudit_call (n : Nat) (s : List UInt8) (hl : s.length ≤ 1000000000) (hn : n ≤ 1000) (hpf : audP n s = none → ∀ M, pf wrongV M) (hI : Indep pf) :
 ICallG pf Tryz.prog 69 [.p 0 0 0 1, .c (.int .i64 n)] ⟨mkMem 0 [RkB s], 1⟩ (fun a M' => audP n s = some (pv (audP n) s, ps (audP n) s) ∧ a = AudV (pv (audP n) s) ∧ M' = ⟨[(0, RkB (ps (audP n) s))], 1⟩) := by
 refine ICallG.trimV ((icall_bodyP tabOk Tryz.func69 rfl rfl (by rw [Tryz.ntmps69]; simp) (aw_sound tabOk _ _ _ ?_)))
 simp only [Tryz.ntmps69, mkMem]
 simp only [↓wt, wz, reduceAdd, reduceMul, reduceEqDiff, reduceLeDiff, Nat.reduceLT, reduceLE, reduceLT, reduceEq, reduceNe, wpn]
 refine RC.lend (bklook_call s hl (fun h => hpf (bindP_n h)) hI) 0 rfl pureAs0 pureR_look hI fun g1 => ?_
 have l1 := look_len g1
 generalize pv lookP s = y at *
 generalize ps lookP s = s1 at *
 obtain ⟨y, p⟩ := y
 simp only [↓wt, wz, reduceAdd, reduceMul, reduceEqDiff, reduceLeDiff, Nat.reduceLT, reduceLE, reduceLT, reduceEq, reduceNe, wpn, Cell, LookA, look_eq0, rnI, nblt, rn0, rnC, rnE, rnR, rnB, putAll, Nat.reduceSub, Nat.sub_zero, Nat.not_lt_zero, Nat.zero_sub, Nat.sub_self, rn_I, rn_B]
 by_cases hz : y = 0 ∧ p = 0
 · have hb : decide (y = 0 ∧ p = 0) = true := decide_eq_true hz
   have hG : audP n s = some (aud00, s1) := by rw [audP, bindP_s g1, if_pos (by rw [hz.1, hz.2])]; rfl
   simp only [↓wt, wz, reduceAdd, reduceMul, reduceEqDiff, reduceLeDiff, Nat.reduceLT, reduceLE, reduceLT, reduceEq, reduceNe, wpn, hb, Cell, Tryz.results69]
   refine ⟨[], ⟨[(0, RkB s1)], 1⟩, AudV aud00, Nat.le_refl _, ?_, ⟨⟨Nat.zero_lt_one, rfl, under_Rk⟩, trivial⟩, ?_⟩
   · rw [hz.1, hz.2]; exact arg_audE (told := []) (use := []) (inc := []) argC_nil argC_nil argC_nil
   · rw [pv_eq hG, ps_eq hG]; exact ⟨hG, rfl, rfl⟩
 · have hb : decide (y = 0 ∧ p = 0) = false := decide_eq_false hz
   simp only [↓wt, wz, reduceAdd, reduceMul, reduceEqDiff, reduceLeDiff, Nat.reduceLT, reduceLE, reduceLT, reduceEq, reduceNe, wpn, hb]
   refine adopt_cell 2 35 6 _ 2 4 1 rfl rfl ?_
   refine adopt_cell 2 35 6 _ 3 2 1 rfl rfl ?_
   refine adopt_cell 2 35 6 _ 4 2 1 rfl rfl ?_
   refine aw_sound tabOk _ _ _ ?_
   simp only [↓wt, wz, reduceAdd, reduceMul, reduceEqDiff, reduceLeDiff, Nat.reduceLT, reduceLE, reduceLT, reduceEq, reduceNe, List.set_cons_zero, List.set_cons_succ]
   refine loop_ruleM tabOk [0, 4, 5, 14] (fun k : Nat => [(15, .c (.int .i64 k))]) (fun k => AuM (ps (manyP triP k) s1) y p (pv (manyP triP k) s1)) (fun k => k ≤ n ∧ manyP triP k s1 = some (pv (manyP triP k) s1, ps (manyP triP k) s1)) (fun k => n - k) 0 ⟨Nat.zero_le _, rfl⟩ (fun _ => rfl) ?_ ?_
   · simp only [↓wt, wz, wkf, reduceAdd, reduceMul, reduceEqDiff, reduceLeDiff, Nat.reduceLT, reduceLE, reduceLT, reduceEq, reduceNe, AuM]
     exact ⟨⟨rfl, under_Rk⟩, rfl, ⟨rfl, underL_O.mpr trivial⟩, rfl, rfl⟩
   · rintro k ⟨hk, hG⟩
     have e3 := wi_succ (k := k) (by omega)
     obtain ⟨hln, hxl⟩ := many_len tri_len _ _ _ _ hG
     generalize hx : pv (manyP triP k) s1 = xs at *
     generalize hs : ps (manyP triP k) s1 = s2 at *
     by_cases hkn : k < n
     · have hb2 : decide ((k : Int) < (n : Int)) = true := decide_eq_true (by omega)
       have hnone : triP s2 = none → ∀ M, pf wrongV M := fun h => hpf (by rw [audP, bindP_s g1, if_neg (fun e => hz (by injection e with e1 e2; exact ⟨e1, e2⟩)), bindP_n (many_none hG h n hkn)])
       simp only [↓wt, wz, reduceAdd, reduceMul, reduceEqDiff, reduceLeDiff, Nat.reduceLT, reduceLE, reduceLT, reduceEq, reduceNe, AuM, hb2, wpn, RkB, Bs]
       cases g2 : rd 1 s2 with
       | none =>
        have hp := hnone (bindP_n g2)
        refine draw_die tabOk mixed [] [0, 2, 0, 9, 8, 8, 8, 8, 8] [0, 0, 0, 0, 0, 0, 0, 0, 0] [[], [0], [], [2], [2, 3], [2, 3, 4], [0, 1, 2, 3, 4, 5], [0, 1, 2, 3, 4, 5, 6], [0, 1, 2, 3, 4, 5, 6, 7]] (by kernel_rfl) (by kernel_rfl) (by kernel_rfl) ?_
        simp only [↓wt, wz, reduceAdd, reduceMul, reduceEqDiff, reduceLeDiff, Nat.reduceLT, reduceLE, reduceLT, reduceEq, reduceNe, wdd]
        refine ⟨fun β => RC.dies (args := [.c (.int .i64 1)]) (bknum_call 1 s2 (by decide) (by omega) (fun _ => hp)) g2 0 rfl pureAs1 pureR_c hI, ?_⟩
        exact ⟨rfl, rfl, rfl, rfl, rfl⟩
       | some q =>
        obtain ⟨v1, s3⟩ := q
        have l3 := rd_len g2
        refine draw_ruleW tabOk mixed 1000 [0, 7, 0, 6, 0, 0, 1, 0, 1] [[], [0], [], [2], [2, 3], [2, 3, 4], [0, 1, 2, 3, 4, 5], [0, 1, 2, 3, 4, 5, 6], [0, 1, 2, 3, 4, 5, 6, 7]] (by kernel_rfl) ?_
        simp only [↓wt, wz, reduceAdd, reduceMul, reduceEqDiff, reduceLeDiff, Nat.reduceLT, reduceLE, reduceLT, reduceEq, reduceNe, w_nil, w_op, w_opg, w_0, w_1, w_2, w_3]
        refine w_load (id := 2) (i := 0) (j := 2) (n := 1) rfl (by decide) rfl rfl rfl rfl ⟨by dsimp only; omega, by dsimp only; omega⟩ (fun K h => by simp only [elem_0]; exact h) ?_
        simp only [↓wt, wz, reduceAdd, reduceMul, reduceEqDiff, reduceLeDiff, Nat.reduceLT, reduceLE, reduceLT, reduceEq, reduceNe, w_nil, w_op, w_opg, w_0, w_1, w_2, w_3]
        refine w_call (r := .c (.int .i64 v1)) (RC.lend (args := [.c (.int .i64 1)]) (bknum_call 1 s2 (by decide) (by omega) (fun h => absurd h (by rw [g2]; nofun))) 0 rfl pureAs1 pureR_c hI fun _ => ⟨by rw [pv_eq g2]; rfl, rfl⟩) (fun id _ h0 => match id, h0 with
         | 0, h => absurd rfl (h (by decide))
         | n + 1, _ => rfl) ?_
        simp only [↓wt, wz, reduceAdd, reduceMul, reduceEqDiff, reduceLeDiff, Nat.reduceLT, reduceLE, reduceLT, reduceEq, reduceNe, w_nil, w_op, w_opg, w_0, w_1, w_2, w_3, rnI, nblt, rn0, rnC, rnE, rnR, rnB, putAll, Nat.reduceSub, Nat.sub_zero, Nat.not_lt_zero, Nat.zero_sub, Nat.sub_self, rn_I, rn_B]
        refine d_heavyX (by simp only [↓wt, wz, reduceAdd, reduceMul, reduceEqDiff, reduceLeDiff, Nat.reduceLT, reduceLE, reduceLT, reduceEq, reduceNe]; (repeat (first | refine And.intro (by omega) ?_ | refine And.intro (pureB _) ?_ | refine And.intro (pureI _) ?_ | refine And.intro ⟨pureB _, pureB _⟩ ?_ | refine And.intro ⟨pureB _, pureI _⟩ ?_ | refine And.intro ⟨pureI _, pureB _⟩ ?_ | refine And.intro ⟨pureI _, pureI _⟩ ?_)); exact ⟨rfl, rfl⟩) ?_
        simp only [↓wt, wz, reduceAdd, reduceMul, reduceEqDiff, reduceLeDiff, Nat.reduceLT, reduceLE, reduceLT, reduceEq, reduceNe, w_nil, w_op, w_opg, w_0, w_1, w_2, w_3]
        refine d_heavyX (by simp only [↓wt, wz, reduceAdd, reduceMul, reduceEqDiff, reduceLeDiff, Nat.reduceLT, reduceLE, reduceLT, reduceEq, reduceNe, Cell]; (repeat (first | refine And.intro (by omega) ?_ | refine And.intro (pureB _) ?_ | refine And.intro (pureI _) ?_ | refine And.intro ⟨pureB _, pureB _⟩ ?_ | refine And.intro ⟨pureB _, pureI _⟩ ?_ | refine And.intro ⟨pureI _, pureB _⟩ ?_ | refine And.intro ⟨pureI _, pureI _⟩ ?_)); exact ⟨rfl, rfl⟩) ?_
        simp only [↓wt, wz, reduceAdd, reduceMul, reduceEqDiff, reduceLeDiff, Nat.reduceLT, reduceLE, reduceLT, reduceEq, reduceNe, Cell, w_nil, w_op, w_opg, w_0, w_1, w_2, w_3]
        have e_g2 := ps_eq g2
        simp only [e_g2, rnB, RkB, Bs, rn_B]
        simp only [↓wt, wz, reduceAdd, reduceMul, reduceEqDiff, reduceLeDiff, Nat.reduceLT, reduceLE, reduceLT, reduceEq, reduceNe, w_nil, w_op, w_opg, w_0, w_1, w_2, w_3, rnI, nblt, rn0, rnC, rnE, rnR, rnB, putAll, Nat.reduceSub, Nat.sub_zero, Nat.not_lt_zero, Nat.zero_sub, Nat.sub_self, rn_I, rn_B]
        cases g3 : rd BW s3 with
        | none =>
         have hp := hnone (by rw [triP, bindP_s g2, bindP_n g3])
         refine draw_die tabOk mixed [] [0, 2, 0, 9, 8, 8, 8, 8] [0, 0, 0, 0, 0, 0, 0, 0] [[], [0], [], [2], [2, 3], [0, 1, 2, 3, 4], [0, 1, 2, 3, 4, 5], [0, 1, 2, 3, 4, 5, 6]] (by kernel_rfl) (by kernel_rfl) (by kernel_rfl) ?_
         simp only [↓wt, wz, reduceAdd, reduceMul, reduceEqDiff, reduceLeDiff, Nat.reduceLT, reduceLE, reduceLT, reduceEq, reduceNe, wdd]
         refine ⟨fun β => RC.dies (bkwide_call s3 (by omega) (fun _ => hp) hI) g3 0 rfl pureAs0 pureR_c hI, ?_⟩
         first | exact ⟨rfl, rfl, rfl, rfl, rfl⟩ | exact ⟨rfl, rfl, rfl, rfl⟩ | exact ⟨rfl, rfl, rfl⟩
        | some q =>
         obtain ⟨v2, s4⟩ := q
         have l4 := rd_len g3
         refine draw_ruleW tabOk mixed 1000 [0, 7, 0, 6, 0, 1, 0, 1] [[], [0], [], [2], [2, 3], [0, 1, 2, 3, 4], [0, 1, 2, 3, 4, 5], [0, 1, 2, 3, 4, 5, 6]] (by kernel_rfl) ?_
         simp only [↓wt, wz, reduceAdd, reduceMul, reduceEqDiff, reduceLeDiff, Nat.reduceLT, reduceLE, reduceLT, reduceEq, reduceNe, w_nil, w_op, w_opg, w_0, w_1, w_2, w_3]
         refine w_load (id := 2) (i := 0) (j := 3) (n := 1) rfl (by decide) rfl rfl rfl rfl ⟨by dsimp only; omega, by dsimp only; omega⟩ (fun K h => by simp only [elem_0]; exact h) ?_
         simp only [↓wt, wz, reduceAdd, reduceMul, reduceEqDiff, reduceLeDiff, Nat.reduceLT, reduceLE, reduceLT, reduceEq, reduceNe, w_nil, w_op, w_opg, w_0, w_1, w_2, w_3]
         refine w_call (r := .c (.int .i64 v2)) (RC.lend (bkwide_call s3 (by omega) (fun h => absurd h (by rw [g3]; nofun)) hI) 0 rfl pureAs0 pureR_c hI fun _ => ⟨by rw [pv_eq g3]; rfl, rfl⟩) (fun id _ h0 => match id, h0 with
          | 0, h => absurd rfl (h (by decide))
          | n + 1, _ => rfl) ?_
         simp only [↓wt, wz, reduceAdd, reduceMul, reduceEqDiff, reduceLeDiff, Nat.reduceLT, reduceLE, reduceLT, reduceEq, reduceNe, w_nil, w_op, w_opg, w_0, w_1, w_2, w_3, rnI, nblt, rn0, rnC, rnE, rnR, rnB, putAll, Nat.reduceSub, Nat.sub_zero, Nat.not_lt_zero, Nat.zero_sub, Nat.sub_self, rn_I, rn_B]
         refine d_heavyX (by simp only [↓wt, wz, reduceAdd, reduceMul, reduceEqDiff, reduceLeDiff, Nat.reduceLT, reduceLE, reduceLT, reduceEq, reduceNe]; (repeat (first | refine And.intro (by omega) ?_ | refine And.intro (pureB _) ?_ | refine And.intro (pureI _) ?_ | refine And.intro ⟨pureB _, pureB _⟩ ?_ | refine And.intro ⟨pureB _, pureI _⟩ ?_ | refine And.intro ⟨pureI _, pureB _⟩ ?_ | refine And.intro ⟨pureI _, pureI _⟩ ?_)); exact ⟨rfl, rfl⟩) ?_
         simp only [↓wt, wz, reduceAdd, reduceMul, reduceEqDiff, reduceLeDiff, Nat.reduceLT, reduceLE, reduceLT, reduceEq, reduceNe, w_nil, w_op, w_opg, w_0, w_1, w_2, w_3]
         refine d_heavyX (by simp only [↓wt, wz, reduceAdd, reduceMul, reduceEqDiff, reduceLeDiff, Nat.reduceLT, reduceLE, reduceLT, reduceEq, reduceNe, Cell]; (repeat (first | refine And.intro (by omega) ?_ | refine And.intro (pureB _) ?_ | refine And.intro (pureI _) ?_ | refine And.intro ⟨pureB _, pureB _⟩ ?_ | refine And.intro ⟨pureB _, pureI _⟩ ?_ | refine And.intro ⟨pureI _, pureB _⟩ ?_ | refine And.intro ⟨pureI _, pureI _⟩ ?_)); exact ⟨rfl, rfl⟩) ?_
         simp only [↓wt, wz, reduceAdd, reduceMul, reduceEqDiff, reduceLeDiff, Nat.reduceLT, reduceLE, reduceLT, reduceEq, reduceNe, Cell, w_nil, w_op, w_opg, w_0, w_1, w_2, w_3]
         have e_g3 := ps_eq g3
         simp only [e_g3, rnB, RkB, Bs, rn_B]
         simp only [↓wt, wz, reduceAdd, reduceMul, reduceEqDiff, reduceLeDiff, Nat.reduceLT, reduceLE, reduceLT, reduceEq, reduceNe, w_nil, w_op, w_opg, w_0, w_1, w_2, w_3, rnI, nblt, rn0, rnC, rnE, rnR, rnB, putAll, Nat.reduceSub, Nat.sub_zero, Nat.not_lt_zero, Nat.zero_sub, Nat.sub_self, rn_I, rn_B]
         cases g4 : rd BW s4 with
         | none =>
          have hp := hnone (by rw [triP, bindP_s g2, bindP_s g3, bindP_n g4])
          refine draw_die tabOk mixed [] [0, 2, 0, 9, 8, 8, 8, 8] [0, 0, 0, 0, 0, 0, 0, 0] [[], [0], [], [2], [2, 3], [0, 1, 2, 3, 4], [0, 1, 2, 3, 4, 5], [0, 1, 2, 3, 4, 5, 6]] (by kernel_rfl) (by kernel_rfl) (by kernel_rfl) ?_
          simp only [↓wt, wz, reduceAdd, reduceMul, reduceEqDiff, reduceLeDiff, Nat.reduceLT, reduceLE, reduceLT, reduceEq, reduceNe, wdd]
          refine ⟨fun β => RC.dies (bkwide_call s4 (by omega) (fun _ => hp) hI) g4 0 rfl pureAs0 pureR_c hI, ?_⟩
          first | exact ⟨rfl, rfl, rfl, rfl, rfl⟩ | exact ⟨rfl, rfl, rfl, rfl⟩ | exact ⟨rfl, rfl, rfl⟩
         | some q =>
          obtain ⟨v3, s5⟩ := q
          have l5 := rd_len g4
          refine draw_ruleW tabOk mixed 1000 [0, 7, 0, 6, 0, 1, 0, 1] [[], [0], [], [2], [2, 3], [0, 1, 2, 3, 4], [0, 1, 2, 3, 4, 5], [0, 1, 2, 3, 4, 5, 6]] (by kernel_rfl) ?_
          simp only [↓wt, wz, reduceAdd, reduceMul, reduceEqDiff, reduceLeDiff, Nat.reduceLT, reduceLE, reduceLT, reduceEq, reduceNe, w_nil, w_op, w_opg, w_0, w_1, w_2, w_3]
          refine w_load (id := 2) (i := 0) (j := 4) (n := 1) rfl (by decide) rfl rfl rfl rfl ⟨by dsimp only; omega, by dsimp only; omega⟩ (fun K h => by simp only [elem_0]; exact h) ?_
          simp only [↓wt, wz, reduceAdd, reduceMul, reduceEqDiff, reduceLeDiff, Nat.reduceLT, reduceLE, reduceLT, reduceEq, reduceNe, w_nil, w_op, w_opg, w_0, w_1, w_2, w_3]
          refine w_call (r := .c (.int .i64 v3)) (RC.lend (bkwide_call s4 (by omega) (fun h => absurd h (by rw [g4]; nofun)) hI) 0 rfl pureAs0 pureR_c hI fun _ => ⟨by rw [pv_eq g4]; rfl, rfl⟩) (fun id _ h0 => match id, h0 with
           | 0, h => absurd rfl (h (by decide))
           | n + 1, _ => rfl) ?_
          simp only [↓wt, wz, reduceAdd, reduceMul, reduceEqDiff, reduceLeDiff, Nat.reduceLT, reduceLE, reduceLT, reduceEq, reduceNe, w_nil, w_op, w_opg, w_0, w_1, w_2, w_3, rnI, nblt, rn0, rnC, rnE, rnR, rnB, putAll, Nat.reduceSub, Nat.sub_zero, Nat.not_lt_zero, Nat.zero_sub, Nat.sub_self, rn_I, rn_B]
          refine d_heavyX (by simp only [↓wt, wz, reduceAdd, reduceMul, reduceEqDiff, reduceLeDiff, Nat.reduceLT, reduceLE, reduceLT, reduceEq, reduceNe]; (repeat (first | refine And.intro (by omega) ?_ | refine And.intro (pureB _) ?_ | refine And.intro (pureI _) ?_ | refine And.intro ⟨pureB _, pureB _⟩ ?_ | refine And.intro ⟨pureB _, pureI _⟩ ?_ | refine And.intro ⟨pureI _, pureB _⟩ ?_ | refine And.intro ⟨pureI _, pureI _⟩ ?_)); exact ⟨rfl, rfl⟩) ?_
          simp only [↓wt, wz, reduceAdd, reduceMul, reduceEqDiff, reduceLeDiff, Nat.reduceLT, reduceLE, reduceLT, reduceEq, reduceNe, w_nil, w_op, w_opg, w_0, w_1, w_2, w_3]
          refine d_heavyX (by simp only [↓wt, wz, reduceAdd, reduceMul, reduceEqDiff, reduceLeDiff, Nat.reduceLT, reduceLE, reduceLT, reduceEq, reduceNe, Cell]; (repeat (first | refine And.intro (by omega) ?_ | refine And.intro (pureB _) ?_ | refine And.intro (pureI _) ?_ | refine And.intro ⟨pureB _, pureB _⟩ ?_ | refine And.intro ⟨pureB _, pureI _⟩ ?_ | refine And.intro ⟨pureI _, pureB _⟩ ?_ | refine And.intro ⟨pureI _, pureI _⟩ ?_)); exact ⟨rfl, rfl⟩) ?_
          simp only [↓wt, wz, reduceAdd, reduceMul, reduceEqDiff, reduceLeDiff, Nat.reduceLT, reduceLE, reduceLT, reduceEq, reduceNe, Cell, w_nil, w_op, w_opg, w_0, w_1, w_2, w_3]
          have e_g4 := ps_eq g4
          simp only [e_g4, rnB, RkB, Bs, rn_B]
          simp only [↓wt, wz, reduceAdd, reduceMul, reduceEqDiff, reduceLeDiff, Nat.reduceLT, reduceLE, reduceLT, reduceEq, reduceNe, w_nil, w_op, w_opg, w_0, w_1, w_2, w_3, rnI, nblt, rn0, rnC, rnE, rnR, rnB, putAll, Nat.reduceSub, Nat.sub_zero, Nat.not_lt_zero, Nat.zero_sub, Nat.sub_self, rn_I, rn_B]
          have hG3 : manyP triP (k + 1) s1 = some (xs ++ [(v1, v2, v3)], s5) := many_snoc hG (by rw [triP, bindP_s g2, bindP_s g3, bindP_s g4]; rfl)
          simp only [↓wt, wz, reduceAdd, reduceMul, reduceEqDiff, reduceLeDiff, Nat.reduceLT, reduceLE, reduceLT, reduceEq, reduceNe, e3]
          refine ⟨k + 1, ?_⟩
          rw [pv_eq hG3, ps_eq hG3]
          refine ⟨⟨by omega, hG3⟩, by omega, ?_⟩
          simp only [↓wt, wz, wkf, reduceAdd, reduceMul, reduceEqDiff, reduceLeDiff, Nat.reduceLT, reduceLE, reduceLT, reduceEq, reduceNe, AuM, e3, RkB, Bs]
          exact ⟨⟨by simp [encO], underL_O.mpr trivial⟩, by simp [encI], by simp [encI]⟩
     · have hb2 : decide ((k : Int) < (n : Int)) = false := decide_eq_false (by omega)
       have hk2 : k = n := by omega
       subst hk2
       have hne : ¬ (y, p) = ((0 : Int), (0 : Int)) := fun e => hz (by injection e with e1 e2; exact ⟨e1, e2⟩)
       simp only [↓wt, wz, reduceAdd, reduceMul, reduceEqDiff, reduceLeDiff, Nat.reduceLT, reduceLE, reduceLT, reduceEq, reduceNe, AuM, hb2, wpn]
       refine RC.lend (args := [.c (.int .i64 1)]) (bknum_call 1 s2 (by decide) (by omega) (fun h => hpf (by rw [audP, bindP_s g1, if_neg hne, bindP_s hG, bindP_n h]))) 0 rfl pureAs1 pureR_c hI fun g2 => ?_
       generalize pv (rd 1) s2 = v1 at *
       generalize ps (rd 1) s2 = s3 at *
       have hG4 : audP k s = some (⟨y, p, xs.map fun x => decide (x.1 = 1), xs.map fun x => x.2.1, xs.map fun x => x.2.2, decide (v1 = 1)⟩, s3) := by
        rw [audP, bindP_s g1, if_neg hne, bindP_s hG, bindP_s g2]; rfl
       simp only [↓wt, wz, reduceAdd, reduceMul, reduceEqDiff, reduceLeDiff, Nat.reduceLT, reduceLE, reduceLT, reduceEq, reduceNe, Cell, wpn, encI_eq, Tryz.results69, rnI, nblt, rn0, rnC, rnE, rnR, rnB, putAll, Nat.reduceSub, Nat.sub_zero, Nat.not_lt_zero, Nat.zero_sub, Nat.sub_self, rn_I, rn_B]
       refine ⟨[3, 4, 5], ⟨[(0, RkB s3)], 1⟩, AudV ⟨y, p, xs.map fun x => decide (x.1 = 1), xs.map fun x => x.2.1, xs.map fun x => x.2.2, decide (v1 = 1)⟩, Nat.le_refl _, ?_, ⟨⟨Nat.zero_lt_one, rfl, under_Rk⟩, trivial⟩, ?_⟩
       · refine arg_audE ?_ ?_ ?_
         · exact argC_own (by simp) rfl (by simp) (pureO _)
         · exact argC_own (by simp) rfl (by simp) (pureI _)
         · exact argC_own (by simp) rfl (by simp) (pureI _)
       · rw [pv_eq hG4, ps_eq hG4]; exact ⟨hG4, rfl, rfl⟩
end Go.Ab
