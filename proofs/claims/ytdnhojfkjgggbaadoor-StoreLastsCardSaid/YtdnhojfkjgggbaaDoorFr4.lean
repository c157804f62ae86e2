/- Frames: one is taken. -/
import Derived.Test.YtdnhojfkjgggbaaDoorFr3
import Derived.Test.YtdnhojfkjgggbaaDoorAbG9
set_option linter.unusedSimpArgs false
set_option linter.unusedVariables false
set_option linter.constructorNameAsVariable false
set_option maxRecDepth 100000
namespace Go.Ab
open Go Go.Proofs Go.RowKit

theorem arr_neq {l m : List UInt8} (h1 : l.length = 4) (h2 : m.length = 4) {M : Mem} {K : AV → Mem → Prop} : aggBinK Tryd.prog 59 M (l.map encB) (m.map encB) K .neq = K (.c (.bool (!decide (l = m)))) M := by
  obtain ⟨i, hi, _⟩ := (ti5).ex
  exact arrB_neq Tryd.underlying59 hi (cellsOf_tok ti5) Tryd.underlying5 (by kernel_rfl) h1 h2
theorem allCell_B {l : List UInt8} : AllCell (l.map encB) = True := eq_true (by
  induction l with
  | nil => trivial
  | cons c l ih => exact ⟨trivial, ih⟩)
theorem exp_one0 {M : Mem} : Exp M (.t [.c (.slice none 0 0), .c (.int .i64 0)]) (.t [Bs [], .c (.int .i64 0)]) := exp_tA (xT_cons xA_nil (xT_cons xA_c xT_nil))
set_option maxHeartbeats 4000000 in
theorem fone_call (b : List UInt8) (hl : b.length ≤ 100000000) : PCall Tryd.prog 27 [Bs b] (.t [Bs (oneT b).1, .c (.int .i64 (oneT b).2)]) := by
  refine pcall_body tabOk Tryd.func27 rfl rfl (by rw [Tryd.ntmps27]; simp) ?_
  simp only [Tryd.ntmps27, Bs]
  simp only [↓wt, wu, wk0, wk1, wk2, wk3, Nat.reduceAdd, Nat.reduceEqDiff, Nat.reduceLeDiff, Nat.reduceLT, Nat.reduceMul, Int.reduceLE, Int.reduceLT, Int.reduceEq, Int.reduceNe, wk4, laidS, keepS]
  refine icall_drop [] (ftxt_call b (by omega)) ⟨arg_l (pureB _), trivial⟩ okR_txt ?_
  have hlen := txT_len b
  simp only [↓wt, wu, wk0, wk1, wk2, wk3, Nat.reduceAdd, Nat.reduceEqDiff, Nat.reduceLeDiff, Nat.reduceLT, Nat.reduceMul, Int.reduceLE, Int.reduceLT, Int.reduceEq, Int.reduceNe, wk4, laidS, keepS, Bs, Str]
  cases ho : (txT b).2.2 with
  | false =>
    simp only [↓wt, wu, wk0, wk1, wk2, wk3, Nat.reduceAdd, Nat.reduceEqDiff, Nat.reduceLeDiff, Nat.reduceLT, Nat.reduceMul, Int.reduceLE, Int.reduceLT, Int.reduceEq, Int.reduceNe, wk4, laidS, keepS, ho, Tryd.results27]
    rw [show oneT b = ([], 0) by rw [oneT, if_neg fun h => by rw [ho] at h; cases h.1]]
    exact exp_one0
  | true =>
    by_cases h4 : 4 ≤ (txT b).2.1.length
    rotate_left
    · have hd : decide (((txT b).2.1.length : Int) < 4) = true := decide_eq_true (by omega)
      simp only [↓wt, wu, wk0, wk1, wk2, wk3, Nat.reduceAdd, Nat.reduceEqDiff, Nat.reduceLeDiff, Nat.reduceLT, Nat.reduceMul, Int.reduceLE, Int.reduceLT, Int.reduceEq, Int.reduceNe, wk4, laidS, keepS, ho, hd, Tryd.results27]
      rw [show oneT b = ([], 0) by rw [oneT, if_neg fun h => h4 h.2.1]]
      exact exp_one0
    · have hd : decide (((txT b).2.1.length : Int) < 4) = false := decide_eq_false (by omega)
      have e1 : IntKind.i64.wrap ((b.length : Int) - ((txT b).2.1.length : Int)) = ((b.length - (txT b).2.1.length : Nat) : Int) := by rw [wrap_i64 (by omega) (by omega)]; omega
      simp only [↓wt, wu, wk0, wk1, wk2, wk3, Nat.reduceAdd, Nat.reduceEqDiff, Nat.reduceLeDiff, Nat.reduceLT, Nat.reduceMul, Int.reduceLE, Int.reduceLT, Int.reduceEq, Int.reduceNe, wk4, laidS, keepS, ho, hd, e1]
      refine draw_rule tabOk mixed [0, 0, 0, 3, 0, 0, 3, 0, 0] [[], [], [0, 1], [0, 1, 2], [], [4], [4, 5], [4, 5, 6], [0, 1, 2, 3, 4, 5, 6, 7]] (by kernel_rfl) ?_
      simp only [↓wt, wu, wk0, wk1, wk2, wk3, Nat.reduceAdd, Nat.reduceEqDiff, Nat.reduceLeDiff, Nat.reduceLT, Nat.reduceMul, Int.reduceLE, Int.reduceLT, Int.reduceEq, Int.reduceNe, wk4, laidS, keepS]
      refine ⟨by omega, by omega, ?_⟩
      refine d_pureC (r := ArrV (sum4 (b.take (b.length - (txT b).2.1.length)))) (fun M0 => icall_drop [] (fsum_call (b.take (b.length - (txT b).2.1.length)) (by rw [List.length_take]; omega)) ⟨arg_l (pureB _), trivial⟩ okR_arr ⟨rfl, rfl⟩) ?_
      simp only [↓wt, wu, wk0, wk1, wk2, wk3, Nat.reduceAdd, Nat.reduceEqDiff, Nat.reduceLeDiff, Nat.reduceLT, Nat.reduceMul, Int.reduceLE, Int.reduceLT, Int.reduceEq, Int.reduceNe, wk4, laidS, keepS, ArrV]
      refine ⟨by omega, ?_⟩
      have q4 : Int.toNat 4 = 4 := rfl
      simp only [q4]
      have g4 : ((txT b).2.1.take 4).length = 4 := by rw [List.length_take]; omega
      refine d_pureX (r := .e (((txT b).2.1.take 4).map encB)) (fun M0 => by
        simp only [↓wt, wu, wk0, wk1, wk2, wk3, Nat.reduceAdd, Nat.reduceEqDiff, Nat.reduceLeDiff, Nat.reduceLT, Nat.reduceMul, Int.reduceLE, Int.reduceLT, Int.reduceEq, Int.reduceNe, wk4, laidS, keepS, zx_sap, allCell_B]
        refine ⟨by omega, ?_⟩
        rw [List.take_of_length_le (by omega)]) ?_
      have hq := fun {M : Mem} {K : AV → Mem → Prop} => arr_neq (l := sum4 (b.take (b.length - (txT b).2.1.length))) (m := (txT b).2.1.take 4) (sum4_len _) g4 (M := M) (K := K)
      have g5 : (((txT b).2.1.take 4).map encB).take 4 = ((txT b).2.1.take 4).map encB := List.take_of_length_le (by rw [List.length_map]; omega)
      simp only [↓wt, wu, wk0, wk1, wk2, wk3, Nat.reduceAdd, Nat.reduceEqDiff, Nat.reduceLeDiff, Nat.reduceLT, Nat.reduceMul, Int.reduceLE, Int.reduceLT, Int.reduceEq, Int.reduceNe, wk4, laidS, keepS, g4]
      have g6 : ((txT b).2.1.take 4).take 4 = (txT b).2.1.take 4 := List.take_of_length_le (by omega)
      have e2 : IntKind.i64.wrap (((b.length - (txT b).2.1.length : Nat) : Int) + 4) = ((b.length - (txT b).2.1.length + 4 : Nat) : Int) := by rw [wrap_i64 (by omega) (by omega)]; omega
      by_cases he : sum4 (b.take (b.length - (txT b).2.1.length)) = (txT b).2.1.take 4
      · have hb := decide_eq_true he
        simp only [↓wt, wu, wk0, wk1, wk2, wk3, Nat.reduceAdd, Nat.reduceEqDiff, Nat.reduceLeDiff, Nat.reduceLT, Nat.reduceMul, Int.reduceLE, Int.reduceLT, Int.reduceEq, Int.reduceNe, wk4, laidS, keepS, g6, hq, hb, e2, Tryd.results27]
        rw [show oneT b = ((txT b).1, b.length - (txT b).2.1.length + 4) by rw [oneT, if_pos ⟨ho, h4, he⟩]]
        exact exp_tA (xT_cons (xA_pure weak_l (.l _ _ (pureB _))) (xT_cons xA_c xT_nil))
      · have hb := decide_eq_false he
        simp only [↓wt, wu, wk0, wk1, wk2, wk3, Nat.reduceAdd, Nat.reduceEqDiff, Nat.reduceLeDiff, Nat.reduceLT, Nat.reduceMul, Int.reduceLE, Int.reduceLT, Int.reduceEq, Int.reduceNe, wk4, laidS, keepS, g6, hq, hb, Tryd.results27]
        rw [show oneT b = ([], 0) by rw [oneT, if_neg fun h => he h.2.2]]
        exact exp_one0
end Go.Ab
