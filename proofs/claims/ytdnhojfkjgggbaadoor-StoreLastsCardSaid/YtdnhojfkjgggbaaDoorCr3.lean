/- The sum of bytes: the document's; as four bytes. -/
import Derived.Test.YtdnhojfkjgggbaaDoorCr2
set_option linter.unusedSimpArgs false
set_option linter.unusedVariables false
set_option linter.constructorNameAsVariable false
set_option maxRecDepth 100000
namespace Go.Ab
open Go Go.Proofs Go.RowKit

theorem crcsum_call (b : List UInt8) (hl : b.length ≤ 1000000000) : PCall Tryd.prog 51 [Bs b] (.c (.int .u32 (crcB b).toNat)) := by
  refine pcall_body tabOk Tryd.func51 rfl rfl (by rw [Tryd.ntmps51]; simp) ?_
  simp only [Tryd.ntmps51, Bs]
  simp only [↓wt, wu, wk0, wk1, wk2, wk3, Nat.reduceAdd, Nat.reduceEqDiff, Nat.reduceLeDiff, Nat.reduceLT, Nat.reduceMul, Int.reduceLE, Int.reduceLT, Int.reduceEq, Int.reduceNe, wk4, laidS, keepS]
  refine icall_drop [] (crcmore_call b hl) ⟨arg_c, arg_l (pureB _), trivial⟩ (.c _) ?_
  simp only [↓wt, wu, wk0, wk1, wk2, wk3, Nat.reduceAdd, Nat.reduceEqDiff, Nat.reduceLeDiff, Nat.reduceLT, Nat.reduceMul, Int.reduceLE, Int.reduceLT, Int.reduceEq, Int.reduceNe, wk4, laidS, keepS, Tryd.results51]
  exact exp_c
theorem u32_mod2 (s : BitVec 32) : ((s.toNat : Int).tmod 2) = ((s.toNat % 2 : Nat) : Int) := tmod_nat (b := 2)
theorem u32_div2 (s : BitVec 32) : IntKind.u32.wrap ((s.toNat : Int).tdiv 2) = ((s >>> 1).toNat : Int) := by
  have : (s.toNat : Int).tdiv 2 = ((s.toNat / 2 : Nat) : Int) := by rw [show (2 : Int) = ((2 : Nat) : Int) from rfl, ← Int.ofNat_tdiv]
  have h := s.isLt
  rw [this, wrap_u32n (by omega), BitVec.toNat_ushiftRight, Nat.shiftRight_eq_div_pow]
theorem u32_poly (s : BitVec 32) : IntKind.u32.wrap ((BitVec.ofInt IntKind.u32.bits (s.toNat : Int) ^^^ BitVec.ofInt IntKind.u32.bits 3988292384).toNat : Int) = ((s ^^^ 0xEDB88320#32).toNat : Int) := by
  rw [u32_of]; exact u32_wrap _
theorem bitS_odd {s : BitVec 32} (h : s.toNat % 2 = 1) : bitS s = (s >>> 1) ^^^ 0xEDB88320#32 := by
  have : (s &&& 1#32).toNat = 1 := by rw [BitVec.toNat_and]; exact (Nat.and_one_is_mod _).trans h
  unfold bitS
  rw [if_pos (by apply BitVec.eq_of_toNat_eq; rw [this]; rfl)]
theorem u32_neg (s : BitVec 32) : IntKind.u32.wrap (4294967295 - (s.toNat : Int)) = ((0xFFFFFFFF#32 ^^^ s).toNat : Int) := by
  have h := s.isLt
  have e : (0xFFFFFFFF#32 ^^^ s) = ~~~ s := by
    apply BitVec.eq_of_getLsbD_eq; intro i hi
    have : (0xFFFFFFFF#32).getLsbD i = true := by
      have : (0xFFFFFFFF#32) = BitVec.allOnes 32 := by decide
      rw [this, BitVec.getLsbD_allOnes]; simpa using hi
    simp only [BitVec.getLsbD_xor, this, BitVec.getLsbD_not, hi, decide_true, Bool.true_and]
    cases s.getLsbD i <;> rfl
  rw [e, BitVec.toNat_not, IntKind.wrap_u32]
  omega
/-- Some bits behind a byte that is taken in. -/
def bitM : Nat → BitVec 32 → BitVec 32
  | 0, s => s
  | n + 1, s => bitS (bitM n s)
theorem bitM_N : ∀ n s, bitM n (bitS s) = bitS (bitM n s)
  | 0, s => rfl
  | n + 1, s => by rw [bitM, bitM_N n]; rfl
theorem bitN_M : ∀ n s, bitN n s = bitM n s
  | 0, s => rfl
  | n + 1, s => by rw [bitN, bitN_M n, bitM_N]; rfl
theorem sumL_take8 {s : BitVec 32} {b : List UInt8} {k : Nat} (h : k < b.length) : sumL s (b.take (k + 1)) = bitM 8 (sumL s (b.take k) ^^^ BitVec.ofNat 32 (b.getD k 0).toNat) := by
  have e : b.take (k + 1) = b.take k ++ [b.getD k 0] := by
    rw [List.take_add_one, List.getElem?_eq_getElem h, List.getD_eq_getElem?_getD, List.getElem?_eq_getElem h]; rfl
  rw [e, sumL, List.foldl_append, ← bitN_M]
  rfl
set_option maxHeartbeats 2000000 in
theorem rcrc_call (b : List UInt8) (hl : b.length ≤ 1000000000) : PCall Tryd.prog 50 [Bs b] (.c (.int .u32 (crcB b).toNat)) := by
  refine pcall_body tabOk Tryd.func50 rfl rfl (by rw [Tryd.ntmps50]; simp) ?_
  simp only [Tryd.ntmps50, Bs]
  simp only [↓wt, wu, wk0, wk1, wk2, wk3, Nat.reduceAdd, Nat.reduceEqDiff, Nat.reduceLeDiff, Nat.reduceLT, Nat.reduceMul, Int.reduceLE, Int.reduceLT, Int.reduceEq, Int.reduceNe, wk4, laidS, keepS]
  refine loop_ruleC tabOk [0] (fun k : Nat => [(3, .c (.int .u32 (sumL 0xFFFFFFFF#32 (b.take k)).toNat)), (4, .c (.int .i64 k))]) (fun k => k ≤ b.length) (fun k => b.length - k) 0 (by omega) ?_ ?_
  · simp only [↓wt, wu, wk0, wk1, wk2, wk3, wkf, Nat.reduceAdd, Nat.reduceEqDiff, Nat.reduceLeDiff, Nat.reduceLT, Nat.reduceMul, Int.reduceLE, Int.reduceLT, Int.reduceEq, Int.reduceNe, wk4, laidS, keepS]
    rfl
  · intro k hk
    have e3 := wsucc (k := k) (by omega)
    simp only [↓wt, wu, wk0, wk1, wk2, wk3, Nat.reduceAdd, Nat.reduceEqDiff, Nat.reduceLeDiff, Nat.reduceLT, Nat.reduceMul, Int.reduceLE, Int.reduceLT, Int.reduceEq, Int.reduceNe, wk4, laidS, keepS]
    repeat' (first | (refine r_casesD (fun hp hb => ?_) (fun hp hb => ?_) <;> simp only [↓wt, wu, wk0, wk1, wk2, wk3, Nat.reduceAdd, Nat.reduceEqDiff, Nat.reduceLeDiff, Nat.reduceLT, Nat.reduceMul, Int.reduceLE, Int.reduceLT, Int.reduceEq, Int.reduceNe, wk4, laidS, keepS, hb]) | (refine r_casesN (fun hp hb => ?_) (fun hp hb => ?_) <;> simp only [↓wt, wu, wk0, wk1, wk2, wk3, Nat.reduceAdd, Nat.reduceEqDiff, Nat.reduceLeDiff, Nat.reduceLT, Nat.reduceMul, Int.reduceLE, Int.reduceLT, Int.reduceEq, Int.reduceNe, wk4, laidS, keepS, hb]) | (refine r_casesM (fun hp hb => ?_) (fun hp hb => ?_) <;> simp only [↓wt, wu, wk0, wk1, wk2, wk3, Nat.reduceAdd, Nat.reduceEqDiff, Nat.reduceLeDiff, Nat.reduceLT, Nat.reduceMul, Int.reduceLE, Int.reduceLT, Int.reduceEq, Int.reduceNe, wk4, laidS, keepS, hb]) | (refine r_casesB (fun hp hb => ?_) (fun hp hb => ?_) <;> simp only [↓wt, wu, wk0, wk1, wk2, wk3, Nat.reduceAdd, Nat.reduceEqDiff, Nat.reduceLeDiff, Nat.reduceLT, Nat.reduceMul, Int.reduceLE, Int.reduceLT, Int.reduceEq, Int.reduceNe, wk4, laidS, keepS, hb]) | (refine r_gcasesD (fun hp hb => ?_) (fun hp hb => ?_) <;> simp only [↓wt, wu, wk0, wk1, wk2, wk3, Nat.reduceAdd, Nat.reduceEqDiff, Nat.reduceLeDiff, Nat.reduceLT, Nat.reduceMul, Int.reduceLE, Int.reduceLT, Int.reduceEq, Int.reduceNe, wk4, laidS, keepS, hb]) | (refine r_gcasesN (fun hp hb => ?_) (fun hp hb => ?_) <;> simp only [↓wt, wu, wk0, wk1, wk2, wk3, Nat.reduceAdd, Nat.reduceEqDiff, Nat.reduceLeDiff, Nat.reduceLT, Nat.reduceMul, Int.reduceLE, Int.reduceLT, Int.reduceEq, Int.reduceNe, wk4, laidS, keepS, hb]) | (refine r_gcasesM (fun hp hb => ?_) (fun hp hb => ?_) <;> simp only [↓wt, wu, wk0, wk1, wk2, wk3, Nat.reduceAdd, Nat.reduceEqDiff, Nat.reduceLeDiff, Nat.reduceLT, Nat.reduceMul, Int.reduceLE, Int.reduceLT, Int.reduceEq, Int.reduceNe, wk4, laidS, keepS, hb]) | (refine r_gcasesB (fun hp hb => ?_) (fun hp hb => ?_) <;> simp only [↓wt, wu, wk0, wk1, wk2, wk3, Nat.reduceAdd, Nat.reduceEqDiff, Nat.reduceLeDiff, Nat.reduceLT, Nat.reduceMul, Int.reduceLE, Int.reduceLT, Int.reduceEq, Int.reduceNe, wk4, laidS, keepS, hb]) | ((with_reducible refine And.intro ?_ ?_); omega) | fail)
    · have hkl : k < b.length := by omega
      have hfin := sumL_take8 (s := 4294967295#32) hkl
      generalize hs : sumL 4294967295#32 (b.take k) = s at hfin ⊢
      generalize hx : s ^^^ BitVec.ofNat 32 (b.getD k 0).toNat = x at hfin
      simp only [u32_byte, u32_xor, hx]
      refine loop_ruleC tabOk [0, 4] (fun j : Nat => [(3, .c (.int .u32 (bitM j x).toNat)), (5, .c (.int .i64 j))]) (fun j => j ≤ 8) (fun j => 8 - j) 0 (by omega) ?_ ?_
      · simp only [↓wt, wu, wk0, wk1, wk2, wk3, wkf, Nat.reduceAdd, Nat.reduceEqDiff, Nat.reduceLeDiff, Nat.reduceLT, Nat.reduceMul, Int.reduceLE, Int.reduceLT, Int.reduceEq, Int.reduceNe, wk4, laidS, keepS, bitM]
        try trivial
      · intro j hj
        have e4 := wsucc (k := j) (by omega)
        generalize hy : bitM j x = y
        have hy2 : bitM (j + 1) x = bitS y := by rw [← hy]; rfl
        simp only [↓wt, wu, wk0, wk1, wk2, wk3, Nat.reduceAdd, Nat.reduceEqDiff, Nat.reduceLeDiff, Nat.reduceLT, Nat.reduceMul, Int.reduceLE, Int.reduceLT, Int.reduceEq, Int.reduceNe, wk4, laidS, keepS]
        refine r_casesD (fun hp hb => ?_) (fun hp hb => ?_) <;> simp only [↓wt, wu, wk0, wk1, wk2, wk3, Nat.reduceAdd, Nat.reduceEqDiff, Nat.reduceLeDiff, Nat.reduceLT, Nat.reduceMul, Int.reduceLE, Int.reduceLT, Int.reduceEq, Int.reduceNe, wk4, laidS, keepS, hb, u32_mod2, u32_div2]
        · rcases Nat.mod_two_eq_zero_or_one y.toNat with hm | hm
          · have hq : decide (((y.toNat % 2 : Nat) : Int) = 1) = false := decide_eq_false (by omega)
            simp only [↓wt, wu, wk0, wk1, wk2, wk3, Nat.reduceAdd, Nat.reduceEqDiff, Nat.reduceLeDiff, Nat.reduceLT, Nat.reduceMul, Int.reduceLE, Int.reduceLT, Int.reduceEq, Int.reduceNe, wk4, laidS, keepS, hq, e4]
            refine ⟨j + 1, by omega, by omega, ?_⟩
            rw [hy2, bitS_even hm]
            simp only [↓wt, wu, wk0, wk1, wk2, wk3, wkf, Nat.reduceAdd, Nat.reduceEqDiff, Nat.reduceLeDiff, Nat.reduceLT, Nat.reduceMul, Int.reduceLE, Int.reduceLT, Int.reduceEq, Int.reduceNe, wk4, laidS, keepS, e4]
            try trivial
          · have hq : decide (((y.toNat % 2 : Nat) : Int) = 1) = true := decide_eq_true (by omega)
            simp only [↓wt, wu, wk0, wk1, wk2, wk3, Nat.reduceAdd, Nat.reduceEqDiff, Nat.reduceLeDiff, Nat.reduceLT, Nat.reduceMul, Int.reduceLE, Int.reduceLT, Int.reduceEq, Int.reduceNe, wk4, laidS, keepS, hq, e4, u32_poly]
            refine ⟨j + 1, by omega, by omega, ?_⟩
            rw [hy2, bitS_odd hm]
            simp only [↓wt, wu, wk0, wk1, wk2, wk3, wkf, Nat.reduceAdd, Nat.reduceEqDiff, Nat.reduceLeDiff, Nat.reduceLT, Nat.reduceMul, Int.reduceLE, Int.reduceLT, Int.reduceEq, Int.reduceNe, wk4, laidS, keepS, e4]
            try trivial
        · have hj2 : j = 8 := by omega
          subst hj2
          simp only [↓wt, wu, wk0, wk1, wk2, wk3, Nat.reduceAdd, Nat.reduceEqDiff, Nat.reduceLeDiff, Nat.reduceLT, Nat.reduceMul, Int.reduceLE, Int.reduceLT, Int.reduceEq, Int.reduceNe, wk4, laidS, keepS, e3]
          refine ⟨k + 1, by omega, by omega, ?_⟩
          simp only [↓wt, wu, wk0, wk1, wk2, wk3, wkf, Nat.reduceAdd, Nat.reduceEqDiff, Nat.reduceLeDiff, Nat.reduceLT, Nat.reduceMul, Int.reduceLE, Int.reduceLT, Int.reduceEq, Int.reduceNe, wk4, laidS, keepS, e3, hfin, hy]
          try trivial
    · have hk2 : k = b.length := by omega
      subst hk2
      simp only [↓wt, wu, wk0, wk1, wk2, wk3, Nat.reduceAdd, Nat.reduceEqDiff, Nat.reduceLeDiff, Nat.reduceLT, Nat.reduceMul, Int.reduceLE, Int.reduceLT, Int.reduceEq, Int.reduceNe, wk4, laidS, keepS, List.take_length, u32_neg, Tryd.results50]
      exact exp_c
end Go.Ab
