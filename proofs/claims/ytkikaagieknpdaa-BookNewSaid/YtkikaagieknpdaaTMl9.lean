/- Mail: the reference's numbers, and what it puts. Mail: the reference's .. -/
import Derived.Test.YtkikaagieknpdaaTMl2
import Derived.Test.YtkikaagieknpdaaTNb5
import Derived.Test.YtkikaagieknpdaaTBk15
import Derived.Test.YtkikaagieknpdaaAd1
import Derived.Test.YtkikaagieknpdaaAbG7
set_option linter.unusedSimpArgs false
set_option linter.unusedVariables false
set_option linter.constructorNameAsVariable false
set_option maxRecDepth 100000
open Nat (reduceAdd reduceMul reduceEqDiff reduceLeDiff)
open Int (reduceLE reduceLT reduceEq reduceNe)
namespace Go.Ab
open Go Go.Proofs Go.RowKit
end Go.Ab
namespace Go.Ab
open Go Go.Proofs Go.RowKit
noncomputable def someT (n : Nat) (b : List UInt8) : List Int × List UInt8 × Bool := if (manyL (num B62) n b).1.length = n then ((manyL (num B62) n b).1, (manyL (num B62) n b).2, true) else ([], [], false)
end Go.Ab
namespace Go.Ab
open Go Go.Proofs Go.RowKit
theorem b62_le : B62 ≤ M63 := by unfold B62 M63; decide
theorem some_put (xs : List Int) (r : List UInt8) (h : ∀ v ∈ xs, 0 ≤ v ∧ v < 4611686018427387904) : someT xs.length (encN xs ++ r) = (xs, r, true) := by
 rw [someT, many_put b62_le xs r fun v hv => ⟨(h v hv).1, (h v hv).2⟩, if_pos rfl]
def audT (a : AudD) : List Int := if NoneA a then [] else triL a a.told.length ++ [flagI a.mv]
def tl7 (k : BookD) : List UInt8 := encN (audT k.a)
def midL (k : BookD) : List Int := [k.k] ++ notesL k.n ++ [k.a.y, k.a.p]
def tl6 (k : BookD) : List UInt8 := encN (midL k) ++ tl7 k
def tl5 (k : BookD) : List UInt8 := encN (outsL k.o) ++ tl6 k
def tl4 (k : BookD) : List UInt8 := encN [(k.o.length : Int)] ++ tl5 k
def tl3 (k : BookD) : List UInt8 := encN (lineL k.l) ++ tl4 k
def tl2 (k : BookD) : List UInt8 := encN [(k.l.length : Int)] ++ tl3 k
def tl1 (k : BookD) : List UInt8 := encN (numsB k.r) ++ tl2 k
theorem tl0 (k : BookD) : encBk k = encN [k.ck] ++ tl1 k := by
 simp only [encBk, numsK, tl1, tl2, tl3, tl4, tl5, tl6, tl7, midL, audL, audT, encN_append, List.append_assoc]
theorem t1 {c : Conf} {who : Int} {k : BookD} (h : MayK c who k) : someT 1 (encBk k) = ([k.ck], tl1 k, true) := by
 rw [tl0]
 exact some_put [k.ck] _ fun v hv => by rw [List.mem_singleton.1 hv]; have := h.2.1; omega
theorem t2 {c : Conf} {who : Int} {k : BookD} (h : MayK c who k) : takeB M63 c (tl1 k) = (k.r, tl2 k, true) := books_put (Nat.le_refl M63) (by decide) h.2.2.1
end Go.Ab
namespace Go.Ab
open Go Go.Proofs Go.RowKit
end Go.Ab
namespace Go.Ab
open Go Go.Proofs Go.RowKit
def boundK (c : Conf) : Int := if MayC c then 16 * (c.n * (c.n + 12) + 6 * c.q + 20) else 0
theorem bound_mul {n : Int} (h1 : 1 ≤ n) (h2 : n ≤ 16) : 13 ≤ n * (n + 12) ∧ n * (n + 12) ≤ 448 := by
 obtain ⟨m, rfl⟩ : ∃ m : Nat, n = m := ⟨n.toNat, by omega⟩
 have : m = 1 ∨ m = 2 ∨ m = 3 ∨ m = 4 ∨ m = 5 ∨ m = 6 ∨ m = 7 ∨ m = 8 ∨ m = 9 ∨ m = 10 ∨ m = 11 ∨ m = 12 ∨ m = 13 ∨ m = 14 ∨ m = 15 ∨ m = 16 := by omega
 rcases this with rfl | rfl | rfl | rfl | rfl | rfl | rfl | rfl | rfl | rfl | rfl | rfl | rfl | rfl | rfl | rfl <;> decide
theorem bkbound_call (c : Conf) : PCall Try.prog 11 [ConfA c] (.c (.int .i64 (boundK c))) := by
 refine pcall_body tabOk Try.func11 rfl rfl (by rw [Try.ntmps11]; simp) ?_
 simp only [Try.ntmps11, ConfA]
 simp only [↓wt, wz, reduceAdd, reduceMul, reduceEqDiff, reduceLeDiff, Nat.reduceLT, reduceLE, reduceLT, reduceEq, reduceNe]
 refine icall_drop [] (rtmay_call c) ⟨arg_conf', trivial⟩ (.c _) ?_
 cases hm : decide (MayC c)
 · simp only [↓wt, wz, reduceAdd, reduceMul, reduceEqDiff, reduceLeDiff, Nat.reduceLT, reduceLE, reduceLT, reduceEq, reduceNe, hm, Try.results11]
   rw [boundK, if_neg (of_decide_eq_false hm)]
   exact exp_c
 · have h := of_decide_eq_true hm
   have hb := bound_mul h.1.1 h.1.2
   have hq := h.2.1
   have e1 : IntKind.i64.wrap (c.n + 12) = c.n + 12 := int_add (by have := h.1; omega) (by have := h.1; omega)
   have e2 : IntKind.i64.wrap (c.n * (c.n + 12)) = c.n * (c.n + 12) := wrap_i64 (by omega) (by omega)
   have e3 : IntKind.i64.wrap (6 * c.q) = 6 * c.q := wrap_i64 (by omega) (by omega)
   have e4 : IntKind.i64.wrap (c.n * (c.n + 12) + 6 * c.q) = c.n * (c.n + 12) + 6 * c.q := wrap_i64 (by omega) (by omega)
   have e5 : IntKind.i64.wrap (c.n * (c.n + 12) + 6 * c.q + 20) = c.n * (c.n + 12) + 6 * c.q + 20 := wrap_i64 (by omega) (by omega)
   have e6 : IntKind.i64.wrap (16 * (c.n * (c.n + 12) + 6 * c.q + 20)) = 16 * (c.n * (c.n + 12) + 6 * c.q + 20) := wrap_i64 (by omega) (by omega)
   simp only [↓wt, wz, reduceAdd, reduceMul, reduceEqDiff, reduceLeDiff, Nat.reduceLT, reduceLE, reduceLT, reduceEq, reduceNe, hm, e1, e2, e3, e4, e5, e6, Try.results11]
   rw [boundK, if_pos h]
   exact exp_c
end Go.Ab
namespace Go.Ab
open Go Go.Proofs Go.RowKit
end Go.Ab
