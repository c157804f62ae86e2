/- Rights: configs: may it be one; a share; books without anything. -/
import Derived.Test.YtkikaagieknpdaaGreatTSh5
import Derived.Test.YtkikaagieknpdaaGreatAbG6
set_option linter.unusedSimpArgs false
set_option linter.unusedVariables false
set_option linter.constructorNameAsVariable false
set_option maxRecDepth 100000
open Nat (reduceAdd reduceMul reduceEqDiff reduceLeDiff)
open Int (reduceLE reduceLT reduceEq reduceNe)
namespace Go.Ab
open Go Go.Proofs Go.RowKit
structure Conf where
 n : Int
 q : Int
 r : Int
 p : Int
 k : Int
 c : Int
def ConfA (c : Conf) : AV := .g [.c (.int .i64 c.n), .c (.int .i64 c.q), .c (.int .i64 c.r), .c (.int .i64 c.p), .c (.int .i64 c.k), .c (.int .i64 c.c)]
def MayC (c : Conf) : Prop := (1 ≤ c.n ∧ c.n ≤ 16) ∧ (1 ≤ c.q ∧ c.q ≤ 8) ∧ (0 ≤ c.r ∧ c.r ≤ 8) ∧ (1 ≤ c.p ∧ c.p ≤ 16) ∧ (0 ≤ c.k ∧ c.k ≤ 1099511627776) ∧ (0 ≤ c.c ∧ c.c ≤ 1099511627776) ∧ c.k + c.n * c.c ≤ 1099511627776
instance (c : Conf) : Decidable (MayC c) := by unfold MayC; infer_instance
theorem mul_bnd {n c : Int} (h1 : 1 ≤ n) (h2 : n ≤ 16) (h3 : 0 ≤ c) (h4 : c ≤ 1099511627776) : 0 ≤ n * c ∧ n * c ≤ 17592186044416 := by
 refine ⟨Int.mul_nonneg (by omega) h3, ?_⟩
 calc n * c ≤ 16 * c := Int.mul_le_mul_of_nonneg_right h2 h3
  _ ≤ 17592186044416 := by omega
set_option maxHeartbeats 2000000 in
theorem rtmay_call (c : Conf) : PCall Tryz.prog 56 [ConfA c] (.c (.bool (decide (MayC c)))) := by
 refine pcall_body tabOk Tryz.func56 rfl rfl (by rw [Tryz.ntmps56]; simp) ?_
 simp only [Tryz.ntmps56, ConfA]
 simp only [↓wt, wz, reduceAdd, reduceMul, reduceEqDiff, reduceLeDiff, Nat.reduceLT, reduceLE, reduceLT, reduceEq, reduceNe]
 refine scope_fwd tabOk 0 _ rfl ?_
 simp only [↓wt, wz, reduceAdd, reduceMul, reduceEqDiff, reduceLeDiff, Nat.reduceLT, reduceLE, reduceLT, reduceEq, reduceNe]
 repeat' (first | ((first | refine r_casesD (fun hp hb => ?_) (fun hp hb => ?_) | refine r_casesN (fun hp hb => ?_) (fun hp hb => ?_) | refine r_casesM (fun hp hb => ?_) (fun hp hb => ?_) | refine r_casesB (fun hp hb => ?_) (fun hp hb => ?_) | refine r_gcasesD (fun hp hb => ?_) (fun hp hb => ?_) | refine r_gcasesN (fun hp hb => ?_) (fun hp hb => ?_) | refine r_gcasesM (fun hp hb => ?_) (fun hp hb => ?_) | refine r_gcasesB (fun hp hb => ?_) (fun hp hb => ?_)) <;> simp only [↓wt, wz, reduceAdd, reduceMul, reduceEqDiff, reduceLeDiff, Nat.reduceLT, reduceLE, reduceLT, reduceEq, reduceNe, Tryz.results56, hb]) | ((with_reducible refine And.intro ?_ ?_); omega) | fail)
 all_goals first | exact exp_bF (by unfold MayC; omega) | skip
 have e := mul_bnd (n := c.n) (c := c.c) (by omega) (by omega) (by omega) (by omega)
 rw [int_wrap (n := c.n * c.c) (by omega) (by omega), int_wrap (by omega) (by omega)]
 exact exp_bE (by unfold MayC; omega)
def rm_G (c : Conf) (i : Nat) : Prop := (i : Int) ≤ c.n ∧ (i : Int) * c.c ≤ 1099511627776
set_option maxHeartbeats 2000000 in
theorem rrtmay_call (c : Conf) : PCall Tryz.prog 22 [ConfA c] (.c (.bool (decide (MayC c)))) := by
 refine pcall_body tabOk Tryz.func22 rfl rfl (by rw [Tryz.ntmps22]; simp) ?_
 simp only [Tryz.ntmps22, ConfA]
 simp only [↓wt, wz, reduceAdd, reduceMul, reduceEqDiff, reduceLeDiff, Nat.reduceLT, reduceLE, reduceLT, reduceEq, reduceNe]
 repeat' (first | ((first | refine r_casesD (fun hp hb => ?_) (fun hp hb => ?_) | refine r_casesN (fun hp hb => ?_) (fun hp hb => ?_) | refine r_casesM (fun hp hb => ?_) (fun hp hb => ?_) | refine r_casesB (fun hp hb => ?_) (fun hp hb => ?_) | refine r_gcasesD (fun hp hb => ?_) (fun hp hb => ?_) | refine r_gcasesN (fun hp hb => ?_) (fun hp hb => ?_) | refine r_gcasesM (fun hp hb => ?_) (fun hp hb => ?_) | refine r_gcasesB (fun hp hb => ?_) (fun hp hb => ?_)) <;> simp only [↓wt, wz, reduceAdd, reduceMul, reduceEqDiff, reduceLeDiff, Nat.reduceLT, reduceLE, reduceLT, reduceEq, reduceNe, Tryz.results22, hb]) | ((with_reducible refine And.intro ?_ ?_); omega) | fail)
 all_goals first | exact exp_bF (by unfold MayC; omega) | skip
 refine loop_ruleC tabOk [1] (fun i : Nat => [(3, .c (.int .i64 (1099511627776 - i * c.c))), (4, .c (.int .i64 i))]) (rm_G c) (fun i => c.n.toNat - i) 0 ⟨by omega, by omega⟩ ?_ ?_
 · simp only [↓wt, wz, wkf, reduceAdd, reduceMul, reduceEqDiff, reduceLeDiff, Nat.reduceLT, reduceLE, reduceLT, reduceEq, reduceNe]
   rw [Int.zero_mul, Int.sub_zero]
 · rintro i ⟨h1, h2⟩
   simp only [↓wt, wz, reduceAdd, reduceMul, reduceEqDiff, reduceLeDiff, Nat.reduceLT, reduceLE, reduceLT, reduceEq, reduceNe]
   have e1 : i < c.n.toNat → IntKind.i64.wrap ((i : Int) + 1) = ((i + 1 : Nat) : Int) := fun h => by rw [wrap_i64 (by omega) (by omega)]; omega
   have e2 : c.c ≤ 1099511627776 - (i : Int) * c.c → IntKind.i64.wrap (1099511627776 - (i : Int) * c.c - c.c) = 1099511627776 - ((i + 1 : Nat) : Int) * c.c := fun hle => by
    have : ((i + 1 : Nat) : Int) * c.c = (i : Int) * c.c + c.c := by rw [Int.natCast_add, Int.add_mul]; omega
    have : 0 ≤ (i : Int) * c.c := Int.mul_nonneg (by omega) (by omega)
    rw [wrap_i64 (by omega) (by omega)]; omega
   repeat' (first | ((first | refine r_casesD (fun hp hb => ?_) (fun hp hb => ?_) | refine r_casesN (fun hp hb => ?_) (fun hp hb => ?_) | refine r_casesM (fun hp hb => ?_) (fun hp hb => ?_) | refine r_casesB (fun hp hb => ?_) (fun hp hb => ?_) | refine r_gcasesD (fun hp hb => ?_) (fun hp hb => ?_) | refine r_gcasesN (fun hp hb => ?_) (fun hp hb => ?_) | refine r_gcasesM (fun hp hb => ?_) (fun hp hb => ?_) | refine r_gcasesB (fun hp hb => ?_) (fun hp hb => ?_)) <;> simp only [↓wt, wz, reduceAdd, reduceMul, reduceEqDiff, reduceLeDiff, Nat.reduceLT, reduceLE, reduceLT, reduceEq, reduceNe, Tryz.results22, hb]) | ((with_reducible refine And.intro ?_ ?_); omega) | fail)
   · refine exp_bF fun h => ?_
     unfold MayC at h
     have h3 : ((i : Int) + 1) * c.c ≤ c.n * c.c := Int.mul_le_mul_of_nonneg_right (by omega) (by omega)
     rw [Int.add_mul] at h3
     omega
   · have e1 := e1 (by omega)
     have e2 := e2 (by omega)
     simp only [↓wt, wz, reduceAdd, reduceMul, reduceEqDiff, reduceLeDiff, Nat.reduceLT, reduceLE, reduceLT, reduceEq, reduceNe, e1, e2]
     refine ⟨i + 1, ⟨by omega, ?_⟩, by omega, ?_⟩
     · have : ((i + 1 : Nat) : Int) * c.c = (i : Int) * c.c + c.c := by rw [Int.natCast_add, Int.add_mul]; omega
       omega
     · simp only [↓wt, wz, wkf, reduceAdd, reduceMul, reduceEqDiff, reduceLeDiff, Nat.reduceLT, reduceLE, reduceLT, reduceEq, reduceNe, e1, e2]
   · have : c.n = i := by omega
     have hx : 1 * c.c ≤ (i : Int) * c.c := Int.mul_le_mul_of_nonneg_right (by omega) (by omega)
     refine exp_bE ?_
     unfold MayC
     rw [this]
     omega
end Go.Ab
