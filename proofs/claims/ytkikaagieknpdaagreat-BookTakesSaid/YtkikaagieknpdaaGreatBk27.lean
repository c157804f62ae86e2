/- Books: the document's: counted numbers, flags. -/
import Derived.Test.YtkikaagieknpdaaGreatTMl9
import Derived.Test.YtkikaagieknpdaaGreatBk24
import Derived.Test.YtkikaagieknpdaaGreatBk20
set_option linter.unusedSimpArgs false
set_option linter.unusedVariables false
set_option linter.constructorNameAsVariable false
set_option maxRecDepth 100000
open Nat (reduceAdd reduceMul reduceEqDiff reduceLeDiff)
open Int (reduceLE reduceLT reduceEq reduceNe)
namespace Go.Ab
open Go Go.Proofs Go.RowKit
noncomputable def cntT (b : List UInt8) (most : Int) (k : Nat) : List Int × List UInt8 × Bool :=
 if (someT 1 b).2.2 = true ∧ (someT 1 b).1.getD 0 0 ≤ most then someT (((someT 1 b).1.getD 0 0).toNat * k) (someT 1 b).2.1 else ([], [], false)
theorem exp_some {M : Mem} {p q : List Int × List UInt8 × Bool} (h : p = q) : Exp M (.t [.l 1 (p.1.map encI), .l 1 (p.2.1.map encB), .c (.bool p.2.2)]) (SomeV q) := by
 subst h
 exact exp_tA (xT_cons (xA_pure weak_l (.l _ _ (pureI _))) (xT_cons xA_Bs (xT_cons xA_c xT_nil)))
theorem rcounted_call (b : List UInt8) (hl : b.length ≤ 1000000000) (most : Int) (hm : most ≤ 100) (k : Nat) (hk : k ≤ 10) : PCall Tryz.prog 24 [Bs b, .c (.int .i64 most), .c (.int .i64 k)] (SomeV (cntT b most k)) := by
 have m1 := mrsome_call b 1 hl (by decide)
 refine pcall_body tabOk Tryz.func24 rfl rfl (by rw [Tryz.ntmps24]; simp) ?_
 simp only [Tryz.ntmps24, Bs]
 rcases some_cases 1 b with h | ⟨xs, r, h⟩
 · rw [h] at m1
   simp only [↓wt, wz, reduceAdd, reduceMul, reduceEqDiff, reduceLeDiff, Nat.reduceLT, reduceLE, reduceLT, reduceEq, reduceNe]
   refine icall_drop [] m1 ⟨arg_l (pureB _), arg_c, trivial⟩ okR_some ?_
   simp only [↓wt, wz, reduceAdd, reduceMul, reduceEqDiff, reduceLeDiff, Nat.reduceLT, reduceLE, reduceLT, reduceEq, reduceNe, SomeV, Bs, Tryz.results24]
   exact exp_someN (by rw [cntT, h, if_neg (by simp)])
 rw [h] at m1
 obtain ⟨v, rfl, hv1, hv2, hb⟩ := some_1 h
 have hr : r.length ≤ b.length := by rw [hb]; simp
 simp only [↓wt, wz, reduceAdd, reduceMul, reduceEqDiff, reduceLeDiff, Nat.reduceLT, reduceLE, reduceLT, reduceEq, reduceNe]
 refine icall_drop [] m1 ⟨arg_l (pureB _), arg_c, trivial⟩ okR_some ?_
 cases e1 : decide (v > most)
 rotate_left
 · simp only [↓wt, wz, reduceAdd, reduceMul, reduceEqDiff, reduceLeDiff, Nat.reduceLT, reduceLE, reduceLT, reduceEq, reduceNe, SomeV, Bs, e1, elem_I, Tryz.results24]
   exact exp_someN (by rw [cntT, h, if_neg (fun h => by have := of_decide_eq_true e1; have := h.2; simp at this; omega)])
 have hv3 : v ≤ most := by have := of_decide_eq_false e1; omega
 have e2 : IntKind.i64.wrap (v * (k : Int)) = ((v.toNat * k : Nat) : Int) := by
  have e3 : ((v.toNat * k : Nat) : Int) = v * k := by rw [Int.natCast_mul, Int.toNat_of_nonneg hv1]
  have : v.toNat * k ≤ 100 * 10 := Nat.mul_le_mul (by omega) hk
  rw [← e3, wrap_i64 (by omega) (by omega)]
 have m2 := mrsome_call r (v.toNat * k) (by omega) (by have : v.toNat * k ≤ 100 * 10 := Nat.mul_le_mul (by omega) hk; omega)
 simp only [↓wt, wz, reduceAdd, reduceMul, reduceEqDiff, reduceLeDiff, Nat.reduceLT, reduceLE, reduceLT, reduceEq, reduceNe, SomeV, Bs, e1, e2, elem_I]
 refine icall_drop [] m2 ⟨arg_l (pureB _), arg_c, trivial⟩ okR_some ?_
 simp only [↓wt, wz, reduceAdd, reduceMul, reduceEqDiff, reduceLeDiff, Nat.reduceLT, reduceLE, reduceLT, reduceEq, reduceNe, SomeV, Bs, Tryz.results24]
 exact exp_some (by rw [cntT, h, if_pos ⟨rfl, by simpa using hv3⟩]; rfl)
theorem rflag_call (v : Int) : PCall Tryz.prog 25 [.c (.int .i64 v)] (.c (.bool (decide (v = 0 ∨ v = 1)))) := by
 refine pcall_body tabOk Tryz.func25 rfl rfl (by rw [Tryz.ntmps25]; simp) ?_
 simp only [Tryz.ntmps25]
 simp only [↓wt, wz, reduceAdd, reduceMul, reduceEqDiff, reduceLeDiff, Nat.reduceLT, reduceLE, reduceLT, reduceEq, reduceNe]
 cases e1 : decide (v = 0)
 · simp only [↓wt, wz, reduceAdd, reduceMul, reduceEqDiff, reduceLeDiff, Nat.reduceLT, reduceLE, reduceLT, reduceEq, reduceNe, e1, Tryz.results25]
   exact exp_bE ⟨fun h => .inr h, fun h => h.resolve_left (of_decide_eq_false e1)⟩
 · simp only [↓wt, wz, reduceAdd, reduceMul, reduceEqDiff, reduceLeDiff, Nat.reduceLT, reduceLE, reduceLT, reduceEq, reduceNe, e1, Tryz.results25]
   exact exp_bT (p := v = 0 ∨ v = 1) (.inl (of_decide_eq_true e1))
theorem cnt_cases {b : List UInt8} {most : Int} {k : Nat} : cntT b most k = ([], [], false) ∨ ∃ (n : Nat) (xs : List Int) (r : List UInt8), cntT b most k = (xs, r, true) ∧ (n : Int) ≤ most ∧ xs.length = n * k ∧ b = encN [(n : Int)] ++ (encN xs ++ r) := by
 unfold cntT
 split
 · rename_i hh
   rcases some_cases 1 b with h | ⟨xs, r, h⟩
   · rw [h] at hh; simp at hh
   · obtain ⟨v, rfl, hv1, hv2, hb⟩ := some_1 h
     rw [h] at hh ⊢
     rcases some_cases (v.toNat * k) r with h2 | ⟨ys, r2, h2⟩
     · exact .inl h2
     · obtain ⟨g1, g2, g3⟩ := some_of h2
       have hv : ((v.toNat : Nat) : Int) = v := by omega
       refine .inr ⟨v.toNat, ys, r2, h2, ?_, g2, ?_⟩
       · have := hh.2; simp at this; omega
       · rw [hv, ← g1]; exact hb
 · exact .inl rfl
theorem cnt_yes {b r r2 : List UInt8} {most : Int} {k n : Nat} {xs : List Int} (h1 : someT 1 b = ([(n : Int)], r, true)) (h2 : (n : Int) ≤ most) (h3 : someT (k * n) r = (xs, r2, true)) : cntT b most k = (xs, r2, true) := by
 rw [cntT, h1, if_pos ⟨rfl, by simpa using h2⟩]
 show someT ((n : Int).toNat * k) r = _
 rw [Int.toNat_natCast, Nat.mul_comm]; exact h3
end Go.Ab
