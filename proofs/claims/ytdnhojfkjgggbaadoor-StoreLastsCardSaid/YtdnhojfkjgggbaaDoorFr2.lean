/- Frames: texts are taken; a sum as an array. -/
import Derived.Test.YtdnhojfkjgggbaaDoorFr1
import Derived.Test.YtdnhojfkjgggbaaDoorCr3
import Derived.Test.YtdnhojfkjgggbaaDoorNb5
set_option linter.unusedSimpArgs false
set_option linter.unusedVariables false
set_option linter.constructorNameAsVariable false
set_option maxRecDepth 100000
namespace Go.Ab
open Go Go.Proofs Go.RowKit

theorem okR_tq {a : Value} {r : List UInt8} {c : Value} : OkR (Under 0) (.t [.c a, Bs r, .c c]) := ⟨.c _, .l _ _ (pureB _), .c _, trivial⟩
def ArrV (l : List UInt8) : AV := .g (l.map encB)
theorem byte_of (n : Nat) : AV.c (.int .u8 (IntKind.u8.wrap (n : Int))) = encB (UInt8.ofNat (n % 256)) := by
  rw [encB_ofNat (by omega), wrap_u8]; congr 2
theorem u32_shr (n k : Nat) (h : k ≤ 32) : ((n : Int).fdiv (2 ^ min (Int.toNat (k : Int)) IntKind.u32.bits)) = ((n / 2 ^ k : Nat) : Int) := by
  have : min (Int.toNat (k : Int)) IntKind.u32.bits = k := by
    show min (Int.toNat (k : Int)) 32 = k
    rw [Int.toNat_natCast]; omega
  rw [this, Int.fdiv_eq_ediv_of_nonneg _ (by exact Int.pow_nonneg (by decide))]
  rw [Int.natCast_ediv]; simp
theorem under_Arr {k : Nat} {l : List UInt8} : Under k (ArrV l) := .g _ fun i hi => by
  rw [List.getElem_map]; exact .c _
set_option maxHeartbeats 2000000 in
theorem fsum_call (b : List UInt8) (hl : b.length ≤ 1000000000) : PCall Tryd.prog 31 [Bs b] (ArrV (sum4 b)) := by
  refine pcall_body tabOk Tryd.func31 rfl rfl (by rw [Tryd.ntmps31]; simp) ?_
  simp only [Tryd.ntmps31, Bs]
  simp only [↓wt, wu, wk0, wk1, wk2, wk3, Nat.reduceAdd, Nat.reduceEqDiff, Nat.reduceLeDiff, Nat.reduceLT, Nat.reduceMul, Int.reduceLE, Int.reduceLT, Int.reduceEq, Int.reduceNe, wk4, laidS, keepS]
  refine icall_drop [] (crcsum_call b hl) ⟨arg_l (pureB _), trivial⟩ (.c _) ?_
  have s8 : (((crcB b).toNat : Int).fdiv (2 ^ min (Int.toNat 8) IntKind.u32.bits)) = (((crcB b).toNat / 256 : Nat) : Int) := u32_shr (crcB b).toNat 8 (by decide)
  have s16 : (((crcB b).toNat : Int).fdiv (2 ^ min (Int.toNat 16) IntKind.u32.bits)) = (((crcB b).toNat / 65536 : Nat) : Int) := u32_shr (crcB b).toNat 16 (by decide)
  have s24 : (((crcB b).toNat : Int).fdiv (2 ^ min (Int.toNat 24) IntKind.u32.bits)) = (((crcB b).toNat / 16777216 : Nat) : Int) := u32_shr (crcB b).toNat 24 (by decide)
  simp only [↓wt, wu, wk0, wk1, wk2, wk3, Nat.reduceAdd, Nat.reduceEqDiff, Nat.reduceLeDiff, Nat.reduceLT, Nat.reduceMul, Int.reduceLE, Int.reduceLT, Int.reduceEq, Int.reduceNe, wk4, laidS, keepS, Cell, Tryd.results31]
  rw [s8, s16, s24, byte_of, byte_of, byte_of, byte_of]
  exact exp_self (under_Arr (l := four (crcB b).toNat))
theorem okR_arr {l : List UInt8} : OkR (Under 0) (ArrV l) := by
  show OkL (Under 0) (l.map encB)
  induction l with
  | nil => trivial
  | cons c l ih => exact ⟨.c _, ih⟩
theorem exp_tx0 {M : Mem} : Exp M (.t [.c (.string ⟨#[]⟩), .c (.slice none 0 0), .c (.bool false)]) (.t [Str [], Bs [], .c (.bool false)]) := exp_tA (xT_cons xA_c (xT_cons xA_nil (xT_cons xA_c xT_nil)))
theorem exp_tx1 {M : Mem} {p r : List UInt8} : Exp M (.t [.c (.string ⟨p.toArray⟩), .l 1 (r.map encB), .c (.bool true)]) (.t [Str p, Bs r, .c (.bool true)]) := exp_tA (xT_cons xA_c (xT_cons (xA_pure weak_l (.l _ _ (pureB _))) (xT_cons xA_c xT_nil)))
theorem okR_txt {p r : List UInt8} {v : Value} : OkR (Under 0) (.t [Str p, Bs r, .c v]) := ⟨.c _, .l _ _ (pureB _), .c _, trivial⟩
set_option maxHeartbeats 2000000 in
theorem ftxt_call (b : List UInt8) (hl : b.length ≤ 1000000000) : PCall Tryd.prog 47 [Bs b] (.t [Str (txT b).1, Bs (txT b).2.1, .c (.bool (txT b).2.2)]) := by
  refine pcall_body tabOk Tryd.func47 rfl rfl (by rw [Tryd.ntmps47]; simp) ?_
  simp only [Tryd.ntmps47, Bs]
  simp only [↓wt, wu, wk0, wk1, wk2, wk3, Nat.reduceAdd, Nat.reduceEqDiff, Nat.reduceLeDiff, Nat.reduceLT, Nat.reduceMul, Int.reduceLE, Int.reduceLT, Int.reduceEq, Int.reduceNe, wk4, laidS, keepS]
  refine icall_drop [] (ntake_call b hl (tq_is b)) ⟨arg_l (pureB _), trivial⟩ okR_tq ?_
  have hlen := tq_len b
  have e1 : IntKind.u64.wrap ((tq b).2.1.length : Int) = ((tq b).2.1.length : Int) := wrap_u64 (by omega)
  cases ho : (tq b).2.2 with
  | false =>
    simp only [↓wt, wu, wk0, wk1, wk2, wk3, Nat.reduceAdd, Nat.reduceEqDiff, Nat.reduceLeDiff, Nat.reduceLT, Nat.reduceMul, Int.reduceLE, Int.reduceLT, Int.reduceEq, Int.reduceNe, wk4, laidS, keepS, Bs, ho, Tryd.results47]
    rw [show txT b = ([], [], false) by rw [txT, if_neg fun h => by rw [ho] at h; cases h.1]]
    exact exp_tx0
  | true =>
    by_cases hc : (tq b).1 ≤ (tq b).2.1.length
    · have hd : decide (((tq b).1 : Int) > ((tq b).2.1.length : Int)) = false := decide_eq_false (by omega)
      simp only [↓wt, wu, wk0, wk1, wk2, wk3, Nat.reduceAdd, Nat.reduceEqDiff, Nat.reduceLeDiff, Nat.reduceLT, Nat.reduceMul, Int.reduceLE, Int.reduceLT, Int.reduceEq, Int.reduceNe, wk4, laidS, keepS, Bs, ho, e1, hd]
      refine draw_rule tabOk mixed [0, 0, 0, 0, 0, 0, 0, 0, 0, 0, 0, 0, 0, 0] [[], [], [0, 1], [0, 1, 2], [], [], [], [6], [], [8], [4, 5, 6, 7, 8, 9], [0, 1, 2, 3], [0, 1, 2, 3, 4, 5, 6, 7, 8, 9, 10, 11], [0, 1, 2, 3, 4, 5, 6, 7, 8, 9, 10, 11, 12]] (by kernel_rfl) ?_
      simp only [↓wt, wu, wk0, wk1, wk2, wk3, Nat.reduceAdd, Nat.reduceEqDiff, Nat.reduceLeDiff, Nat.reduceLT, Nat.reduceMul, Int.reduceLE, Int.reduceLT, Int.reduceEq, Int.reduceNe, wk4, laidS, keepS, Tryd.results47]
      rw [show txT b = ((tq b).2.1.take (tq b).1, (tq b).2.1.drop (tq b).1, true) by rw [txT, if_pos ⟨ho, hc⟩]]
      exact ⟨by omega, by omega, by omega, by omega, exp_tx1⟩
    · have hd : decide (((tq b).1 : Int) > ((tq b).2.1.length : Int)) = true := decide_eq_true (by omega)
      simp only [↓wt, wu, wk0, wk1, wk2, wk3, Nat.reduceAdd, Nat.reduceEqDiff, Nat.reduceLeDiff, Nat.reduceLT, Nat.reduceMul, Int.reduceLE, Int.reduceLT, Int.reduceEq, Int.reduceNe, wk4, laidS, keepS, Bs, ho, e1, hd, Tryd.results47]
      rw [show txT b = ([], [], false) by rw [txT, if_neg fun h => hc h.2]]
      exact exp_tx0
set_option maxHeartbeats 2000000 in
theorem frtxt_call (b : List UInt8) (hl : b.length ≤ 1000000000) : PCall Tryd.prog 28 [Bs b] (.t [Str (txT b).1, Bs (txT b).2.1, .c (.bool (txT b).2.2)]) := by
  refine pcall_body tabOk Tryd.func28 rfl rfl (by rw [Tryd.ntmps28]; simp) ?_
  simp only [Tryd.ntmps28, Bs]
  simp only [↓wt, wu, wk0, wk1, wk2, wk3, Nat.reduceAdd, Nat.reduceEqDiff, Nat.reduceLeDiff, Nat.reduceLT, Nat.reduceMul, Int.reduceLE, Int.reduceLT, Int.reduceEq, Int.reduceNe, wk4, laidS, keepS]
  refine icall_drop [] (nrtake_call b hl (tq_is b)) ⟨arg_l (pureB _), trivial⟩ okR_tq ?_
  have hlen := tq_len b
  have e1 : IntKind.u64.wrap ((tq b).2.1.length : Int) = ((tq b).2.1.length : Int) := wrap_u64 (by omega)
  cases ho : (tq b).2.2 with
  | false =>
    simp only [↓wt, wu, wk0, wk1, wk2, wk3, Nat.reduceAdd, Nat.reduceEqDiff, Nat.reduceLeDiff, Nat.reduceLT, Nat.reduceMul, Int.reduceLE, Int.reduceLT, Int.reduceEq, Int.reduceNe, wk4, laidS, keepS, Bs, ho, Tryd.results28]
    rw [show txT b = ([], [], false) by rw [txT, if_neg fun h => by rw [ho] at h; cases h.1]]
    exact exp_tx0
  | true =>
    by_cases hc : (tq b).1 ≤ (tq b).2.1.length
    · have hd : decide (((tq b).1 : Int) > ((tq b).2.1.length : Int)) = false := decide_eq_false (by omega)
      have e3 : IntKind.i64.wrap ((tq b).1 : Int) = ((tq b).1 : Int) := wrap_i64 (by omega) (by omega)
      simp only [↓wt, wu, wk0, wk1, wk2, wk3, Nat.reduceAdd, Nat.reduceEqDiff, Nat.reduceLeDiff, Nat.reduceLT, Nat.reduceMul, Int.reduceLE, Int.reduceLT, Int.reduceEq, Int.reduceNe, wk4, laidS, keepS, Bs, ho, e1, hd]
      refine draw_rule tabOk mixed [0, 0, 0, 0, 0, 0, 0, 0, 0, 0, 0, 0] [[], [], [1], [0, 1, 2], [0, 1, 2, 3], [], [], [6], [5, 6, 7], [0, 1, 2, 3, 4], [0, 1, 2, 3, 4, 5, 6, 7, 8, 9], [0, 1, 2, 3, 4, 5, 6, 7, 8, 9, 10]] (by kernel_rfl) ?_
      simp only [↓wt, wu, wk0, wk1, wk2, wk3, Nat.reduceAdd, Nat.reduceEqDiff, Nat.reduceLeDiff, Nat.reduceLT, Nat.reduceMul, Int.reduceLE, Int.reduceLT, Int.reduceEq, Int.reduceNe, wk4, laidS, keepS, e3, Tryd.results28]
      rw [show txT b = ((tq b).2.1.take (tq b).1, (tq b).2.1.drop (tq b).1, true) by rw [txT, if_pos ⟨ho, hc⟩]]
      exact ⟨by omega, by omega, by omega, by omega, exp_tx1⟩
    · have hd : decide (((tq b).1 : Int) > ((tq b).2.1.length : Int)) = true := decide_eq_true (by omega)
      simp only [↓wt, wu, wk0, wk1, wk2, wk3, Nat.reduceAdd, Nat.reduceEqDiff, Nat.reduceLeDiff, Nat.reduceLT, Nat.reduceMul, Int.reduceLE, Int.reduceLT, Int.reduceEq, Int.reduceNe, wk4, laidS, keepS, Bs, ho, e1, hd, Tryd.results28]
      rw [show txT b = ([], [], false) by rw [txT, if_neg fun h => hc h.2]]
      exact exp_tx0
end Go.Ab
