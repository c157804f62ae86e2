/- Frames: the document's; sizes; the same lists? -/
import Derived.Test.YtdnhojfkjgggbaaDoorFr5
set_option linter.unusedSimpArgs false
set_option linter.unusedVariables false
set_option linter.constructorNameAsVariable false
set_option maxRecDepth 100000
namespace Go.Ab
open Go Go.Proofs Go.RowKit

theorem fsize_call (n : Nat) (hn : n ≤ 1000000000) : PCall Tryd.prog 14 [.c (.int .i64 n)] (.c (.int .i64 ((putL n).length + n + 4 : Nat))) := by
  have hl := putL_len10 (n := n) (by omega)
  have m1 := (nput_call [] n (by simp) (by omega)).frz
  rw [List.nil_append] at m1
  change PCall _ _ _ (Bs (putL n)) at m1
  have e1 : IntKind.u64.wrap (n : Int) = (n : Int) := wrap_u64 (by omega)
  have e2 : IntKind.i64.wrap (((putL n).length : Int) + (n : Int)) = (((putL n).length + n : Nat) : Int) := by rw [wrap_i64 (by omega) (by omega)]; omega
  have e3 : IntKind.i64.wrap ((((putL n).length + n : Nat) : Int) + 4) = (((putL n).length + n + 4 : Nat) : Int) := by rw [wrap_i64 (by omega) (by omega)]; omega
  have e4 : (if (0 : Int) > (n : Int) then (0 : Int) else (n : Int)) = (n : Int) := if_neg (by omega)
  refine pcall_body tabOk Tryd.func14 rfl rfl (by rw [Tryd.ntmps14]; simp) ?_
  simp only [Tryd.ntmps14]
  simp only [↓wt, wu, wk0, wk1, wk2, wk3, Nat.reduceAdd, Nat.reduceEqDiff, Nat.reduceLeDiff, Nat.reduceLT, Nat.reduceMul, Int.reduceLE, Int.reduceLT, Int.reduceEq, Int.reduceNe, wk4, laidS, keepS, e4, e1]
  refine icall_drop [] m1 ⟨arg_nil, arg_c, trivial⟩ okR_Bs ?_
  simp only [↓wt, wu, wk0, wk1, wk2, wk3, Nat.reduceAdd, Nat.reduceEqDiff, Nat.reduceLeDiff, Nat.reduceLT, Nat.reduceMul, Int.reduceLE, Int.reduceLT, Int.reduceEq, Int.reduceNe, wk4, laidS, keepS, Bs, e2, e3, Tryd.results14]
  exact exp_c
theorem rsize_call (n : Nat) (hn : n ≤ 1000000000) : PCall Tryd.prog 15 [.c (.int .i64 n)] (.c (.int .i64 ((putL n).length + n + 4 : Nat))) := by
  have hl := putL_len10 (n := n) (by omega)
  have m1 := (nrput_call [] n (by simp) (by omega)).frz
  rw [List.nil_append] at m1
  change PCall _ _ _ (Bs (putL n)) at m1
  have e1 : IntKind.u64.wrap (n : Int) = (n : Int) := wrap_u64 (by omega)
  have e2 : IntKind.i64.wrap (((putL n).length : Int) + (n : Int)) = (((putL n).length + n : Nat) : Int) := by rw [wrap_i64 (by omega) (by omega)]; omega
  have e3 : IntKind.i64.wrap ((((putL n).length + n : Nat) : Int) + 4) = (((putL n).length + n + 4 : Nat) : Int) := by rw [wrap_i64 (by omega) (by omega)]; omega
  have e4 : decide ((n : Int) < 0) = false := decide_eq_false (by omega)
  refine pcall_body tabOk Tryd.func15 rfl rfl (by rw [Tryd.ntmps15]; simp) ?_
  simp only [Tryd.ntmps15]
  simp only [↓wt, wu, wk0, wk1, wk2, wk3, Nat.reduceAdd, Nat.reduceEqDiff, Nat.reduceLeDiff, Nat.reduceLT, Nat.reduceMul, Int.reduceLE, Int.reduceLT, Int.reduceEq, Int.reduceNe, wk4, laidS, keepS, e4, e1]
  refine icall_drop [] m1 ⟨arg_nil, arg_c, trivial⟩ okR_Bs ?_
  simp only [↓wt, wu, wk0, wk1, wk2, wk3, Nat.reduceAdd, Nat.reduceEqDiff, Nat.reduceLeDiff, Nat.reduceLT, Nat.reduceMul, Int.reduceLE, Int.reduceLT, Int.reduceEq, Int.reduceNe, wk4, laidS, keepS, Bs, e2, e3, Tryd.results15]
  exact exp_c
/-- The lowest bytes of a sum. -/
def fourK (n k : Nat) : List UInt8 := (four n).take k
theorem four_step {n k : Nat} (h : k < 4) : fourK n (k + 1) = fourK n k ++ [UInt8.ofNat (n / 256 ^ k % 256)] := by
  have : k = 0 ∨ k = 1 ∨ k = 2 ∨ k = 3 := by omega
  rcases this with rfl | rfl | rfl | rfl <;> simp [fourK, four]
set_option maxHeartbeats 2000000 in
theorem frput_call (b p : List UInt8) (hb : b.length ≤ 1000000) (hp : p.length ≤ 1000000) : PCall Tryd.prog 29 [Bs b, Bs p] (Bs (b ++ frL p)) := by
  have hl := putL_len10 (n := p.length) (by omega)
  have ht : (textL p).length ≤ 1000010 := by rw [textL_len]; omega
  have m1 := (nrtext_call [] p (by simp) hp).frz
  rw [List.nil_append] at m1
  change PCall _ _ _ (Bs (textL p)) at m1
  refine pcall_body tabOk Tryd.func29 rfl rfl (by rw [Tryd.ntmps29]; simp) ?_
  simp only [Tryd.ntmps29, Bs]
  simp only [↓wt, wu, wk0, wk1, wk2, wk3, Nat.reduceAdd, Nat.reduceEqDiff, Nat.reduceLeDiff, Nat.reduceLT, Nat.reduceMul, Int.reduceLE, Int.reduceLT, Int.reduceEq, Int.reduceNe, wk4, laidS, keepS]
  refine icall_drop [] m1 ⟨arg_nil, arg_c, trivial⟩ okR_Bs ?_
  simp only [↓wt, wu, wk0, wk1, wk2, wk3, Nat.reduceAdd, Nat.reduceEqDiff, Nat.reduceLeDiff, Nat.reduceLT, Nat.reduceMul, Int.reduceLE, Int.reduceLT, Int.reduceEq, Int.reduceNe, wk4, laidS, keepS, Bs]
  refine icall_drop [] (rcrc_call (textL p) (by omega)) ⟨arg_l (pureB _), trivial⟩ (.c _) ?_
  simp only [↓wt, wu, wk0, wk1, wk2, wk3, Nat.reduceAdd, Nat.reduceEqDiff, Nat.reduceLeDiff, Nat.reduceLT, Nat.reduceMul, Int.reduceLE, Int.reduceLT, Int.reduceEq, Int.reduceNe, wk4, laidS, keepS, Bs]
  repeat (refine And.intro (by omega) ?_)
  generalize hn : (crcB (textL p)).toNat = n
  have hn32 : n < 4294967296 := by rw [← hn]; exact (crcB (textL p)).isLt
  refine loop_ruleM tabOk [] (fun k : Nat => [(6, .c (.int .u32 (n / 256 ^ k : Nat))), (7, .s 0 0 (b ++ textL p ++ fourK n k).length), (8, .c (.int .i64 k))]) (fun k => ⟨[(0, ⟨5, 1, (b ++ textL p ++ fourK n k).map encB⟩)], 1⟩) (fun k => k ≤ 4) (fun k => 4 - k) 0 (by omega) (fun _ => rfl) ?_ ?_
  · simp only [↓wt, wu, wk0, wk1, wk2, wk3, wkf, Nat.reduceAdd, Nat.reduceEqDiff, Nat.reduceLeDiff, Nat.reduceLT, Nat.reduceMul, Int.reduceLE, Int.reduceLT, Int.reduceEq, Int.reduceNe, wk4, laidS, keepS, underL_append, underL_B, List.length_append, List.map_append]
    simp [fourK]
  · intro k hk
    have e3 := wsucc (k := k) (by omega)
    have hmk : n / 256 ^ k < 4294967296 := Nat.lt_of_le_of_lt (Nat.div_le_self _ _) hn32
    have e1 : ((n / 256 ^ k : Nat) : Int).tmod 256 = ((n / 256 ^ k % 256 : Nat) : Int) := tmod_nat (b := 256)
    have e2 : IntKind.u32.wrap (((n / 256 ^ k : Nat) : Int).tdiv 256) = ((n / 256 ^ (k + 1) : Nat) : Int) := by
      have : ((n / 256 ^ k : Nat) : Int).tdiv 256 = ((n / 256 ^ k / 256 : Nat) : Int) := by rw [show (256 : Int) = ((256 : Nat) : Int) from rfl, ← Int.ofNat_tdiv]
      rw [this, wrap_u32n (by omega), Nat.div_div_eq_div_mul, Nat.pow_succ]
    have e4 : AV.c (.int .u8 (IntKind.u8.wrap ((n / 256 ^ k % 256 : Nat) : Int))) = encB (UInt8.ofNat (n / 256 ^ k % 256)) := by rw [byte_of, Nat.mod_mod]
    have hf : (fourK n k).length ≤ 4 := by simp [fourK, four]; omega
    simp only [↓wt, wu, wk0, wk1, wk2, wk3, Nat.reduceAdd, Nat.reduceEqDiff, Nat.reduceLeDiff, Nat.reduceLT, Nat.reduceMul, Int.reduceLE, Int.reduceLT, Int.reduceEq, Int.reduceNe, wk4, laidS, keepS]
    refine r_casesD (fun hp2 hb2 => ?_) (fun hp2 hb2 => ?_) <;> simp only [↓wt, wu, wk0, wk1, wk2, wk3, Nat.reduceAdd, Nat.reduceEqDiff, Nat.reduceLeDiff, Nat.reduceLT, Nat.reduceMul, Int.reduceLE, Int.reduceLT, Int.reduceEq, Int.reduceNe, wk4, laidS, keepS, hb2]
    · have hk4 : k < 4 := by omega
      have hs := four_step (n := n) hk4
      simp only [e1, e4]
      simp only [↓wt, wu, wk0, wk1, wk2, wk3, Nat.reduceAdd, Nat.reduceEqDiff, Nat.reduceLeDiff, Nat.reduceLT, Nat.reduceMul, Int.reduceLE, Int.reduceLT, Int.reduceEq, Int.reduceNe, wk4, laidS, keepS, e2, e3, Cell]
      refine ⟨by omega, k + 1, by omega, by omega, ?_⟩
      simp only [↓wt, wu, wk0, wk1, wk2, wk3, wkf, Nat.reduceAdd, Nat.reduceEqDiff, Nat.reduceLeDiff, Nat.reduceLT, Nat.reduceMul, Int.reduceLE, Int.reduceLT, Int.reduceEq, Int.reduceNe, wk4, laidS, keepS, hs, underL_append, underL_B, List.length_append, List.map_append, encB]
      exact ⟨rfl, by simp only [List.append_assoc]⟩
    · have hk4 : k = 4 := by omega
      subst hk4
      simp only [↓wt, wu, wk0, wk1, wk2, wk3, Nat.reduceAdd, Nat.reduceEqDiff, Nat.reduceLeDiff, Nat.reduceLT, Nat.reduceMul, Int.reduceLE, Int.reduceLT, Int.reduceEq, Int.reduceNe, wk4, laidS, keepS, Tryd.results29]
      have he : b ++ textL p ++ fourK n 4 = b ++ frL p := by
        rw [frL, sum4, hn]; simp [fourK, four]
      rw [he]
      exact exp_sl rfl (by rw [List.length_map, ← he]; simp only [List.length_append]) (pureB _)
end Go.Ab
