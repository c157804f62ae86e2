/- FrameCuts. -/
import Derived.Test.YtdnhojfkjgggbaaDoorFr11
import Derived.Test.YtdnhojfkjgggbaaDoorAbG5
set_option linter.unusedSimpArgs false
set_option linter.unusedVariables false
set_option linter.constructorNameAsVariable false
set_option maxRecDepth 100000
namespace Go.Ab
open Go Go.Proofs Go.RowKit

/-- A slot's nil slice, read as a row of data that is empty. -/
theorem nil_rule {P : Program} {c : Code} {K : Exit → ASt → Prop} {sl : Slots} {m : Mem} {N : Nat} (t sz : Nat) (ht : Slots.get sl t = .c (.slice none 0 0)) (h : ACode P c K ⟨insert sl t (.l sz []), m, N⟩) : ACode P c K ⟨sl, m, N⟩ := fun ro w0 E D a hst => by
  refine h ro w0 E D a ⟨hst.g, fun u => ?_, hst.n, hst.d⟩
  unfold Slots.get
  rw [assoc_insert]
  by_cases e : t = u
  · subst e
    have hr := hst.r t
    rw [show Slots.get sl t = _ from ht] at hr
    generalize a.tmps.getD t undef = v at hr ⊢
    have hv : v = .slice none 0 0 := by cases hr; rfl
    simp only [if_true, Option.getD_some]
    rw [hv]
    exact .l0 _ _ _
  · have := hst.r u
    unfold Slots.get at this
    simpa only [e, if_false] using this
def endsL (l : List (List UInt8)) (k : Nat) : List Int := (List.range k).map fun i => (endK l (i + 1) : Int)
theorem endsL_len {l : List (List UInt8)} {k : Nat} : (endsL l k).length = k := by simp [endsL]
theorem endsL_getD {l : List (List UInt8)} {k i : Nat} (h : i < k) : (endsL l k).getD i 0 = (endK l (i + 1) : Int) := by
  rw [List.getD_eq_getElem?_getD]; simp [endsL, h]
theorem endsL_succ {l : List (List UInt8)} {k : Nat} : endsL l (k + 1) = endsL l k ++ [(endK l (k + 1) : Int)] := by
  simp [endsL, List.range_succ]
set_option maxHeartbeats 4000000 in
theorem framecuts_call (l : List (List UInt8)) (cut : Nat) (hl : l.length < 4611686018427387904) (hp : ∀ p ∈ l, p.length < 4611686018427387904) (hc : cut < 65536) : PCall Tryd.prog 4 [.l 1 (l.map Bs), .c (.int .u16 cut)] (.c (.bool true)) := by
  refine pcall_body tabOk Tryd.func4 rfl rfl (by rw [Tryd.ntmps4]; simp) ?_
  simp only [Tryd.ntmps4]
  simp only [↓wt, wu, wk0, wk1, wk2, wk3, Nat.reduceAdd, Nat.reduceEqDiff, Nat.reduceLeDiff, Nat.reduceLT, Nat.reduceMul, Int.reduceLE, Int.reduceLT, Int.reduceEq, Int.reduceNe, wk4, laidS, keepS]
  refine icall_drop [] faw_call trivial (.c _) ?_
  simp only [↓wt, wu, wk0, wk1, wk2, wk3, Nat.reduceAdd, Nat.reduceEqDiff, Nat.reduceLeDiff, Nat.reduceLT, Nat.reduceMul, Int.reduceLE, Int.reduceLT, Int.reduceEq, Int.reduceNe, wk4, laidS, keepS]
  have hmem : ∀ k, k < l.length → l.getD k [] ∈ l := fun k h => by
    rw [List.getD_eq_getElem?_getD, List.getElem?_eq_getElem h]; exact List.getElem_mem h
  refine loop_ruleC tabOk [0, 1] (fun k : Nat => [(5, .c (.int .i64 (lenS (l.take k)))), (6, .c (.int .i64 k))]) (fun k => k ≤ l.length ∧ lenS (l.take k) < 4611686018427387904 + 2001) (fun k => l.length - k) 0 ⟨by omega, by simp [lenS]⟩ ?_ ?_
  · simp only [↓wt, wu, wk0, wk1, wk2, wk3, wkf, Nat.reduceAdd, Nat.reduceEqDiff, Nat.reduceLeDiff, Nat.reduceLT, Nat.reduceMul, Int.reduceLE, Int.reduceLT, Int.reduceEq, Int.reduceNe, wk4, laidS, keepS, underL_Bs, lenS]
    try trivial
  · rintro k ⟨hk, hG⟩
    have e3 : IntKind.i64.wrap ((k : Int) + 1) = ((k + 1 : Nat) : Int) := by rw [wrap_i64 (by omega) (by omega)]; omega
    by_cases h1 : (k : Int) < (l.length : Int)
    · have d1 : decide ((k : Int) < (l.length : Int)) = true := decide_eq_true h1
      have hkl : k < l.length := by omega
      have hs := lenS_take hkl
      have hpk := hp _ (hmem k hkl)
      by_cases h2 : (lenS (l.take k) : Int) ≤ 2000
      · have d2 : decide ((lenS (l.take k) : Int) ≤ 2000) = true := decide_eq_true h2
        have e4 : IntKind.i64.wrap ((lenS (l.take k) : Int) + ((l.getD k []).length : Int)) = (lenS (l.take (k + 1)) : Int) := by rw [wrap_i64 (by omega) (by omega)]; omega
        simp only [↓wt, wu, wk0, wk1, wk2, wk3, Nat.reduceAdd, Nat.reduceEqDiff, Nat.reduceLeDiff, Nat.reduceLT, Nat.reduceMul, Int.reduceLE, Int.reduceLT, Int.reduceEq, Int.reduceNe, wk4, laidS, keepS, d1, d2]
        simp only [↓wt, wu, wk0, wk1, wk2, wk3, Nat.reduceAdd, Nat.reduceEqDiff, Nat.reduceLeDiff, Nat.reduceLT, Nat.reduceMul, Int.reduceLE, Int.reduceLT, Int.reduceEq, Int.reduceNe, wk4, laidS, keepS, elem_Bs, Bs, e3, e4]
        refine ⟨by omega, by omega, by omega, k + 1, ⟨by omega, by omega⟩, by omega, ?_⟩
        simp only [↓wt, wu, wk0, wk1, wk2, wk3, wkf, Nat.reduceAdd, Nat.reduceEqDiff, Nat.reduceLeDiff, Nat.reduceLT, Nat.reduceMul, Int.reduceLE, Int.reduceLT, Int.reduceEq, Int.reduceNe, wk4, laidS, keepS, underL_Bs, e3, e4]
        try trivial
      · have d2 : decide ((lenS (l.take k) : Int) ≤ 2000) = false := decide_eq_false h2
        have d3 : decide ((lenS (l.take k) : Int) > 2000) = true := decide_eq_true (by omega)
        simp only [↓wt, wu, wk0, wk1, wk2, wk3, Nat.reduceAdd, Nat.reduceEqDiff, Nat.reduceLeDiff, Nat.reduceLT, Nat.reduceMul, Int.reduceLE, Int.reduceLT, Int.reduceEq, Int.reduceNe, wk4, laidS, keepS, d1, d2]
        repeat' (first | (refine r_casesD (fun hp hb => ?_) (fun hp hb => ?_) <;> simp only [↓wt, wu, wk0, wk1, wk2, wk3, Nat.reduceAdd, Nat.reduceEqDiff, Nat.reduceLeDiff, Nat.reduceLT, Nat.reduceMul, Int.reduceLE, Int.reduceLT, Int.reduceEq, Int.reduceNe, wk4, laidS, keepS, Tryd.results4, hb]) | (refine r_casesN (fun hp hb => ?_) (fun hp hb => ?_) <;> simp only [↓wt, wu, wk0, wk1, wk2, wk3, Nat.reduceAdd, Nat.reduceEqDiff, Nat.reduceLeDiff, Nat.reduceLT, Nat.reduceMul, Int.reduceLE, Int.reduceLT, Int.reduceEq, Int.reduceNe, wk4, laidS, keepS, Tryd.results4, hb]) | (refine r_casesM (fun hp hb => ?_) (fun hp hb => ?_) <;> simp only [↓wt, wu, wk0, wk1, wk2, wk3, Nat.reduceAdd, Nat.reduceEqDiff, Nat.reduceLeDiff, Nat.reduceLT, Nat.reduceMul, Int.reduceLE, Int.reduceLT, Int.reduceEq, Int.reduceNe, wk4, laidS, keepS, Tryd.results4, hb]) | (refine r_casesB (fun hp hb => ?_) (fun hp hb => ?_) <;> simp only [↓wt, wu, wk0, wk1, wk2, wk3, Nat.reduceAdd, Nat.reduceEqDiff, Nat.reduceLeDiff, Nat.reduceLT, Nat.reduceMul, Int.reduceLE, Int.reduceLT, Int.reduceEq, Int.reduceNe, wk4, laidS, keepS, Tryd.results4, hb]) | (refine r_gcasesD (fun hp hb => ?_) (fun hp hb => ?_) <;> simp only [↓wt, wu, wk0, wk1, wk2, wk3, Nat.reduceAdd, Nat.reduceEqDiff, Nat.reduceLeDiff, Nat.reduceLT, Nat.reduceMul, Int.reduceLE, Int.reduceLT, Int.reduceEq, Int.reduceNe, wk4, laidS, keepS, Tryd.results4, hb]) | (refine r_gcasesN (fun hp hb => ?_) (fun hp hb => ?_) <;> simp only [↓wt, wu, wk0, wk1, wk2, wk3, Nat.reduceAdd, Nat.reduceEqDiff, Nat.reduceLeDiff, Nat.reduceLT, Nat.reduceMul, Int.reduceLE, Int.reduceLT, Int.reduceEq, Int.reduceNe, wk4, laidS, keepS, Tryd.results4, hb]) | (refine r_gcasesM (fun hp hb => ?_) (fun hp hb => ?_) <;> simp only [↓wt, wu, wk0, wk1, wk2, wk3, Nat.reduceAdd, Nat.reduceEqDiff, Nat.reduceLeDiff, Nat.reduceLT, Nat.reduceMul, Int.reduceLE, Int.reduceLT, Int.reduceEq, Int.reduceNe, wk4, laidS, keepS, Tryd.results4, hb]) | (refine r_gcasesB (fun hp hb => ?_) (fun hp hb => ?_) <;> simp only [↓wt, wu, wk0, wk1, wk2, wk3, Nat.reduceAdd, Nat.reduceEqDiff, Nat.reduceLeDiff, Nat.reduceLT, Nat.reduceMul, Int.reduceLE, Int.reduceLT, Int.reduceEq, Int.reduceNe, wk4, laidS, keepS, Tryd.results4, hb]) | ((with_reducible refine And.intro ?_ ?_); omega) | fail)
        all_goals first | exact exp_c | (exfalso; omega)
    have d1 : decide ((k : Int) < (l.length : Int)) = false := decide_eq_false h1
    simp only [↓wt, wu, wk0, wk1, wk2, wk3, Nat.reduceAdd, Nat.reduceEqDiff, Nat.reduceLeDiff, Nat.reduceLT, Nat.reduceMul, Int.reduceLE, Int.reduceLT, Int.reduceEq, Int.reduceNe, wk4, laidS, keepS, d1]
    have hkl : k = l.length := by omega
    subst hkl
    repeat' (first | (refine r_casesD (fun hp hb => ?_) (fun hp hb => ?_) <;> simp only [↓wt, wu, wk0, wk1, wk2, wk3, Nat.reduceAdd, Nat.reduceEqDiff, Nat.reduceLeDiff, Nat.reduceLT, Nat.reduceMul, Int.reduceLE, Int.reduceLT, Int.reduceEq, Int.reduceNe, wk4, laidS, keepS, Tryd.results4, hb]) | (refine r_casesN (fun hp hb => ?_) (fun hp hb => ?_) <;> simp only [↓wt, wu, wk0, wk1, wk2, wk3, Nat.reduceAdd, Nat.reduceEqDiff, Nat.reduceLeDiff, Nat.reduceLT, Nat.reduceMul, Int.reduceLE, Int.reduceLT, Int.reduceEq, Int.reduceNe, wk4, laidS, keepS, Tryd.results4, hb]) | (refine r_casesM (fun hp hb => ?_) (fun hp hb => ?_) <;> simp only [↓wt, wu, wk0, wk1, wk2, wk3, Nat.reduceAdd, Nat.reduceEqDiff, Nat.reduceLeDiff, Nat.reduceLT, Nat.reduceMul, Int.reduceLE, Int.reduceLT, Int.reduceEq, Int.reduceNe, wk4, laidS, keepS, Tryd.results4, hb]) | (refine r_casesB (fun hp hb => ?_) (fun hp hb => ?_) <;> simp only [↓wt, wu, wk0, wk1, wk2, wk3, Nat.reduceAdd, Nat.reduceEqDiff, Nat.reduceLeDiff, Nat.reduceLT, Nat.reduceMul, Int.reduceLE, Int.reduceLT, Int.reduceEq, Int.reduceNe, wk4, laidS, keepS, Tryd.results4, hb]) | (refine r_gcasesD (fun hp hb => ?_) (fun hp hb => ?_) <;> simp only [↓wt, wu, wk0, wk1, wk2, wk3, Nat.reduceAdd, Nat.reduceEqDiff, Nat.reduceLeDiff, Nat.reduceLT, Nat.reduceMul, Int.reduceLE, Int.reduceLT, Int.reduceEq, Int.reduceNe, wk4, laidS, keepS, Tryd.results4, hb]) | (refine r_gcasesN (fun hp hb => ?_) (fun hp hb => ?_) <;> simp only [↓wt, wu, wk0, wk1, wk2, wk3, Nat.reduceAdd, Nat.reduceEqDiff, Nat.reduceLeDiff, Nat.reduceLT, Nat.reduceMul, Int.reduceLE, Int.reduceLT, Int.reduceEq, Int.reduceNe, wk4, laidS, keepS, Tryd.results4, hb]) | (refine r_gcasesM (fun hp hb => ?_) (fun hp hb => ?_) <;> simp only [↓wt, wu, wk0, wk1, wk2, wk3, Nat.reduceAdd, Nat.reduceEqDiff, Nat.reduceLeDiff, Nat.reduceLT, Nat.reduceMul, Int.reduceLE, Int.reduceLT, Int.reduceEq, Int.reduceNe, wk4, laidS, keepS, Tryd.results4, hb]) | (refine r_gcasesB (fun hp hb => ?_) (fun hp hb => ?_) <;> simp only [↓wt, wu, wk0, wk1, wk2, wk3, Nat.reduceAdd, Nat.reduceEqDiff, Nat.reduceLeDiff, Nat.reduceLT, Nat.reduceMul, Int.reduceLE, Int.reduceLT, Int.reduceEq, Int.reduceNe, wk4, laidS, keepS, Tryd.results4, hb]) | ((with_reducible refine And.intro ?_ ?_); omega) | fail)
    · exact exp_c
    · exact exp_c
    rw [List.take_length] at *
    have hn20 : l.length ≤ 20 := by omega
    have ht : lenS l ≤ 2000 := by omega
    have hfr := frs_lenS l (by omega)
    have hlp : ∀ k, k < l.length → (l.getD k []).length ≤ 2000 := fun k h => Nat.le_trans (lenS_mem (hmem k h)) ht
    refine nil_rule 7 1 rfl ?_
    refine adopt_rule 8 3 1 rfl ?_
    simp only [↓wt, wu, wk0, wk1, wk2, wk3, Nat.reduceAdd, Nat.reduceEqDiff, Nat.reduceLeDiff, Nat.reduceLT, Nat.reduceMul, Int.reduceLE, Int.reduceLT, Int.reduceEq, Int.reduceNe, wk4, laidS, keepS]
    refine loop_ruleM tabOk [0, 1] (fun k : Nat => [(7, Bs (frs (l.take k))), (8, .s 0 0 (endsL l k).length), (9, .c (.int .i64 k))]) (fun k => ⟨[(0, ⟨3, 1, (endsL l k).map encI⟩)], 1⟩) (fun k => k ≤ l.length) (fun k => l.length - k) 0 (by omega) (fun _ => rfl) ?_ ?_
    · simp only [↓wt, wu, wk0, wk1, wk2, wk3, wkf, Nat.reduceAdd, Nat.reduceEqDiff, Nat.reduceLeDiff, Nat.reduceLT, Nat.reduceMul, Int.reduceLE, Int.reduceLT, Int.reduceEq, Int.reduceNe, wk4, laidS, keepS, underL_Bs, underL_B, underL_I, Bs, frs]
      try trivial
    · intro k hk
      have e3 := wsucc (k := k) (by omega)
      have hek : (frs (l.take k)).length ≤ _ := endK_le l k
      simp only [↓wt, wu, wk0, wk1, wk2, wk3, Nat.reduceAdd, Nat.reduceEqDiff, Nat.reduceLeDiff, Nat.reduceLT, Nat.reduceMul, Int.reduceLE, Int.reduceLT, Int.reduceEq, Int.reduceNe, wk4, laidS, keepS]
      refine r_casesD (fun hp2 hb2 => ?_) (fun hp2 hb2 => ?_) <;> simp only [↓wt, wu, wk0, wk1, wk2, wk3, Nat.reduceAdd, Nat.reduceEqDiff, Nat.reduceLeDiff, Nat.reduceLT, Nat.reduceMul, Int.reduceLE, Int.reduceLT, Int.reduceEq, Int.reduceNe, wk4, laidS, keepS, hb2]
      · have hkl : k < l.length := by omega
        have hpk := hlp k hkl
        have m1 := (fput_call (frs (l.take k)) (l.getD k []) (by omega) (by omega)).frz
        rw [← frs_take hkl] at m1
        change PCall _ _ _ (Bs (frs (l.take (k + 1)))) at m1
        have hst : (frs (l.take (k + 1))).length = (frs (l.take k)).length + (frL (l.getD k [])).length := by rw [frs_take hkl, List.length_append]
        have hfl := frL_len (l.getD k [])
        have m2 := fsize_call (l.getD k []).length (by omega)
        have m3 := rsize_call (l.getD k []).length (by omega)
        rw [← hfl] at m2 m3
        have hes := endsL_succ (l := l) (k := k)
        have hek1 : endK l (k + 1) = (frs (l.take (k + 1))).length := rfl
        simp only [↓wt, wu, wk0, wk1, wk2, wk3, Nat.reduceAdd, Nat.reduceEqDiff, Nat.reduceLeDiff, Nat.reduceLT, Nat.reduceMul, Int.reduceLE, Int.reduceLT, Int.reduceEq, Int.reduceNe, wk4, laidS, keepS, elem_Bs, Bs]
        repeat (refine And.intro (by omega) ?_)
        refine icall_drop [] m1 ⟨arg_l (pureB _), arg_l (pureB _), trivial⟩ okR_Bs ?_
        simp only [↓wt, wu, wk0, wk1, wk2, wk3, Nat.reduceAdd, Nat.reduceEqDiff, Nat.reduceLeDiff, Nat.reduceLT, Nat.reduceMul, Int.reduceLE, Int.reduceLT, Int.reduceEq, Int.reduceNe, wk4, laidS, keepS, Bs, Cell]
        refine ⟨by rw [endsL_len]; omega, ?_⟩
        have f1 : decide (((frs (l.take (k + 1))).length : Int) < ((frL (l.getD k [])).length : Int)) = false := decide_eq_false (by omega)
        refine draw_rule tabOk mixed [0, 0, 0, 0, 0, 0, 0, 3, 0, 0, 0, 0, 0, 0, 0, 3, 0, 0, 0, 0, 0, 3, 0, 0] [[], [0], [], [], [2, 3], [2, 3, 4], [2, 3, 4, 5], [2, 3, 4, 5, 6], [0, 1, 2, 3, 4, 5, 6, 7], [0, 1, 2, 3, 4, 5, 6, 7, 8], [0, 1, 2, 3, 4, 5, 6, 7, 8, 9], [0, 1, 2, 3, 4, 5, 6, 7, 8, 9], [0, 1, 2, 3, 4, 5, 6, 7, 8, 9, 10, 11], [0, 1, 2, 3, 4, 5, 6, 7, 8, 9, 10, 11, 12], [0, 1, 2, 3, 4, 5, 6, 7, 8, 9, 10, 11, 12, 13], [0, 1, 2, 3, 4, 5, 6, 7, 8, 9, 10, 11, 12, 13, 14], [0, 1, 2, 3, 4, 5, 6, 7, 8, 9], [0, 1, 2, 3, 4, 5, 6, 7, 8, 9], [0, 1, 2, 3, 4, 5, 6, 7, 8, 9, 16, 17], [0, 1, 2, 3, 4, 5, 6, 7, 8, 9, 16, 17, 18], [0, 1, 2, 3, 4, 5, 6, 7, 8, 9, 16, 17, 18, 19], [0, 1, 2, 3, 4, 5, 6, 7, 8, 9, 10, 11, 12, 13, 14, 15, 16, 17, 18, 19, 20], [0, 1, 2, 3, 4, 5, 6, 7, 8, 9, 10, 11, 12, 13, 14, 15, 16, 17, 18, 19, 20, 21], [0, 1, 2, 3, 4, 5, 6, 7, 8, 9, 10, 11, 12, 13, 14, 15, 16, 17, 18, 19, 20, 21, 22]] (by kernel_rfl) ?_
        simp (maxSteps := 10000000) only [↓wt, wu, wk0, wk1, wk2, wk3, Nat.reduceAdd, Nat.reduceEqDiff, Nat.reduceLeDiff, Nat.reduceLT, Nat.reduceMul, Int.reduceLE, Int.reduceLT, Int.reduceEq, Int.reduceNe, wk4, laidS, keepS, elem_Bs, Bs]
        repeat (refine And.intro (by omega) ?_)
        refine d_pureC (fun M0 => icall_drop [] m2 ⟨arg_c, trivial⟩ (.c _) ⟨rfl, rfl⟩) ?_
        simp (maxSteps := 10000000) only [↓wt, wu, wk0, wk1, wk2, wk3, Nat.reduceAdd, Nat.reduceEqDiff, Nat.reduceLeDiff, Nat.reduceLT, Nat.reduceMul, Int.reduceLE, Int.reduceLT, Int.reduceEq, Int.reduceNe, wk4, laidS, keepS, elem_Bs, Bs, f1]
        repeat (refine And.intro (by omega) ?_)
        refine d_pureC (fun M0 => icall_drop [] m2 ⟨arg_c, trivial⟩ (.c _) ⟨rfl, rfl⟩) ?_
        simp (maxSteps := 10000000) only [↓wt, wu, wk0, wk1, wk2, wk3, Nat.reduceAdd, Nat.reduceEqDiff, Nat.reduceLeDiff, Nat.reduceLT, Nat.reduceMul, Int.reduceLE, Int.reduceLT, Int.reduceEq, Int.reduceNe, wk4, laidS, keepS, elem_Bs, Bs, f1]
        repeat (refine And.intro (by omega) ?_)
        refine d_pureC (fun M0 => icall_drop [] m3 ⟨arg_c, trivial⟩ (.c _) ⟨rfl, rfl⟩) ?_
        simp (maxSteps := 10000000) only [↓wt, wu, wk0, wk1, wk2, wk3, Nat.reduceAdd, Nat.reduceEqDiff, Nat.reduceLeDiff, Nat.reduceLT, Nat.reduceMul, Int.reduceLE, Int.reduceLT, Int.reduceEq, Int.reduceNe, wk4, laidS, keepS, elem_Bs, Bs, f1]
        refine ⟨k + 1, by omega, by omega, ?_⟩
        simp only [↓wt, wu, wk0, wk1, wk2, wk3, wkf, Nat.reduceAdd, Nat.reduceEqDiff, Nat.reduceLeDiff, Nat.reduceLT, Nat.reduceMul, Int.reduceLE, Int.reduceLT, Int.reduceEq, Int.reduceNe, wk4, laidS, keepS, underL_Bs, underL_B, underL_I, underL_append, Bs, e3, hes, hek1, List.map_append, List.length_append, encI]
        try trivial
      · have hkl : k = l.length := by omega
        subst hkl
        have m1 := fscan_call (frs l) (by omega)
        have hsm : Smalls l := fun p h => by have := lenS_mem h; omega
        rw [sc_all hsm] at m1
        have hpl : PureL (l.map Bs) := by rw [pureL_eq]; exact underL_Bs.mpr trivial
        have f1 : decide ((((frs l).length : Nat) : Int) ≠ (((frs l).length : Nat) : Int)) = false := decide_eq_false (by simp)
        rw [List.take_length]
        simp only [↓wt, wu, wk0, wk1, wk2, wk3, Nat.reduceAdd, Nat.reduceEqDiff, Nat.reduceLeDiff, Nat.reduceLT, Nat.reduceMul, Int.reduceLE, Int.reduceLT, Int.reduceEq, Int.reduceNe, wk4, laidS, keepS, Bs]
        refine icall_drop [] m1 ⟨arg_l (pureB _), trivial⟩ okR_scan ?_
        simp only [↓wt, wu, wk0, wk1, wk2, wk3, Nat.reduceAdd, Nat.reduceEqDiff, Nat.reduceLeDiff, Nat.reduceLT, Nat.reduceMul, Int.reduceLE, Int.reduceLT, Int.reduceEq, Int.reduceNe, wk4, laidS, keepS, Bs]
        refine icall_drop [] (frsame_call l l (by omega)) ⟨arg_l hpl, arg_l hpl, trivial⟩ (.c _) ?_
        have f2 : decide (l = l) = true := decide_eq_true rfl
        obtain ⟨n0, hn0⟩ : ∃ n, n = (frs l).length := ⟨_, rfl⟩
        have e5 : IntKind.i64.wrap (cut : Int) = (cut : Int) := wrap_i64 (by omega) (by omega)
        have e6 : IntKind.i64.wrap (((frs l).length : Int) + 1) = (((frs l).length + 1 : Nat) : Int) := by rw [wrap_i64 (by omega) (by omega)]; omega
        have e7 : (cut : Int).tmod (((frs l).length + 1 : Nat) : Int) = ((cut % ((frs l).length + 1) : Nat) : Int) := tmod_nat
        have hk0 := Nat.mod_lt cut (show 0 < (frs l).length + 1 by omega)
        generalize cut % ((frs l).length + 1) = k0 at e7 hk0
        have m5 := fscan_call ((frs l).take k0) (by rw [List.length_take]; omega)
        have hcut := fun w hw h1 h2 => sc_cut (k := k0) (w := w) hsm (by omega) hw h1 h2
        generalize scP ((frs l).take k0) = q at m5 hcut
        simp only [↓wt, wu, wk0, wk1, wk2, wk3, Nat.reduceAdd, Nat.reduceEqDiff, Nat.reduceLeDiff, Nat.reduceLT, Nat.reduceMul, Int.reduceLE, Int.reduceLT, Int.reduceEq, Int.reduceNe, wk4, laidS, keepS, f1, f2, e5, e6, e7]
        refine ⟨by omega, by omega, by omega, ?_⟩
        refine icall_drop [] m5 ⟨arg_l (pureB _), trivial⟩ okR_scan ?_
        simp only [↓wt, wu, wk0, wk1, wk2, wk3, Nat.reduceAdd, Nat.reduceEqDiff, Nat.reduceLeDiff, Nat.reduceLT, Nat.reduceMul, Int.reduceLE, Int.reduceLT, Int.reduceEq, Int.reduceNe, wk4, laidS, keepS, Bs]
        refine loop_ruleC tabOk [0, 8, 11, 12, 13] (fun w : Nat => [(14, .c (.int .i64 w))]) (fun w => w ≤ l.length ∧ endK l w ≤ k0) (fun w => l.length - w) 0 ⟨by omega, by simp [endK, frs]⟩ ?_ ?_
        · simp only [↓wt, wu, wk0, wk1, wk2, wk3, wkf, Nat.reduceAdd, Nat.reduceEqDiff, Nat.reduceLeDiff, Nat.reduceLT, Nat.reduceMul, Int.reduceLE, Int.reduceLT, Int.reduceEq, Int.reduceNe, wk4, laidS, keepS, underL_Bs, underL_B, underL_I, Bs]
          try trivial
        · rintro w ⟨hw, hG⟩
          have e3 := wsucc (k := w) (by omega)
          have hel : (endsL l l.length).length = l.length := endsL_len
          by_cases hwl : w < l.length
          · have d1 : decide ((w : Int) < ((endsL l l.length).length : Int)) = true := decide_eq_true (by omega)
            have hge := endsL_getD (l := l) hwl
            by_cases h2 : (endK l (w + 1) : Int) ≤ (k0 : Int)
            · have d2 : decide ((endK l (w + 1) : Int) ≤ (k0 : Int)) = true := decide_eq_true h2
              simp only [↓wt, wu, wk0, wk1, wk2, wk3, Nat.reduceAdd, Nat.reduceEqDiff, Nat.reduceLeDiff, Nat.reduceLT, Nat.reduceMul, Int.reduceLE, Int.reduceLT, Int.reduceEq, Int.reduceNe, wk4, laidS, keepS, d1]
              simp only [↓wt, wu, wk0, wk1, wk2, wk3, Nat.reduceAdd, Nat.reduceEqDiff, Nat.reduceLeDiff, Nat.reduceLT, Nat.reduceMul, Int.reduceLE, Int.reduceLT, Int.reduceEq, Int.reduceNe, wk4, laidS, keepS, elem_I, hge, encI, d2]
              refine ⟨⟨by omega, by omega⟩, by omega, w + 1, ⟨by omega, by omega⟩, by omega, ?_⟩
              simp only [↓wt, wu, wk0, wk1, wk2, wk3, wkf, Nat.reduceAdd, Nat.reduceEqDiff, Nat.reduceLeDiff, Nat.reduceLT, Nat.reduceMul, Int.reduceLE, Int.reduceLT, Int.reduceEq, Int.reduceNe, wk4, laidS, keepS, underL_Bs, underL_I, e3]
              try trivial
            · have d2 : decide ((endK l (w + 1) : Int) ≤ (k0 : Int)) = false := decide_eq_false h2
              simp only [↓wt, wu, wk0, wk1, wk2, wk3, Nat.reduceAdd, Nat.reduceEqDiff, Nat.reduceLeDiff, Nat.reduceLT, Nat.reduceMul, Int.reduceLE, Int.reduceLT, Int.reduceEq, Int.reduceNe, wk4, laidS, keepS, d1]
              simp only [↓wt, wu, wk0, wk1, wk2, wk3, Nat.reduceAdd, Nat.reduceEqDiff, Nat.reduceLeDiff, Nat.reduceLT, Nat.reduceMul, Int.reduceLE, Int.reduceLT, Int.reduceEq, Int.reduceNe, wk4, laidS, keepS, elem_I, hge, encI, d2]
              refine ⟨⟨by omega, by omega⟩, by omega, ?_⟩
              have hq := hcut w hw hG (fun _ => by omega)
              have hql : q.length = w := by rw [hq, List.length_take]; omega
              have hpq : PureL (q.map Bs) := by rw [pureL_eq]; exact underL_Bs.mpr trivial
              have hpt : PureL ((l.take w).map Bs) := by rw [pureL_eq]; exact underL_Bs.mpr trivial
              have f3 : decide ((q.length : Int) = (w : Int)) = true := decide_eq_true (by rw [hql])
              have f4 : decide (q = l.take w) = true := decide_eq_true hq
              have hfq : (frs q).length = endK l w := by rw [hq]; rfl
              simp only [↓wt, wu, wk0, wk1, wk2, wk3, Nat.reduceAdd, Nat.reduceEqDiff, Nat.reduceLeDiff, Nat.reduceLT, Nat.reduceMul, Int.reduceLE, Int.reduceLT, Int.reduceEq, Int.reduceNe, wk4, laidS, keepS, f3]
              refine ⟨by omega, by omega, ?_⟩
              rw [← List.map_take]
              refine icall_drop [] (frsame_call q (l.take w) (by omega)) ⟨arg_l hpq, arg_l hpt, trivial⟩ (.c _) ?_
              simp only [↓wt, wu, wk0, wk1, wk2, wk3, Nat.reduceAdd, Nat.reduceEqDiff, Nat.reduceLeDiff, Nat.reduceLT, Nat.reduceMul, Int.reduceLE, Int.reduceLT, Int.reduceEq, Int.reduceNe, wk4, laidS, keepS, f4]
              by_cases hw0 : w = 0
              · have g0 : decide ((w : Int) = 0) = true := decide_eq_true (by omega)
                have g1 : decide (((frs q).length : Int) = 0) = true := decide_eq_true (by rw [hfq, hw0]; simp [endK, frs])
                simp only [↓wt, wu, wk0, wk1, wk2, wk3, Nat.reduceAdd, Nat.reduceEqDiff, Nat.reduceLeDiff, Nat.reduceLT, Nat.reduceMul, Int.reduceLE, Int.reduceLT, Int.reduceEq, Int.reduceNe, wk4, laidS, keepS, g0, g1, Tryd.results4]
                exact exp_c
              · have g0 : decide ((w : Int) = 0) = false := decide_eq_false (by omega)
                have g1 : decide ((w : Int) > 0) = true := decide_eq_true (by omega)
                have g2 : IntKind.i64.wrap ((w : Int) - 1) = ((w - 1 : Nat) : Int) := by rw [wrap_i64 (by omega) (by omega)]; omega
                have g3 := endsL_getD (l := l) (k := l.length) (i := w - 1) (by omega)
                rw [show w - 1 + 1 = w by omega] at g3
                have g4 : decide (((frs q).length : Int) = (endK l w : Int)) = true := decide_eq_true (by rw [hfq])
                simp only [↓wt, wu, wk0, wk1, wk2, wk3, Nat.reduceAdd, Nat.reduceEqDiff, Nat.reduceLeDiff, Nat.reduceLT, Nat.reduceMul, Int.reduceLE, Int.reduceLT, Int.reduceEq, Int.reduceNe, wk4, laidS, keepS, g0, g1, g2, elem_I, encI, g3, g4, Tryd.results4]
                exact ⟨⟨by omega, by omega⟩, by omega, exp_c⟩

          · have d1 : decide ((w : Int) < ((endsL l l.length).length : Int)) = false := decide_eq_false (by omega)
            simp only [↓wt, wu, wk0, wk1, wk2, wk3, Nat.reduceAdd, Nat.reduceEqDiff, Nat.reduceLeDiff, Nat.reduceLT, Nat.reduceMul, Int.reduceLE, Int.reduceLT, Int.reduceEq, Int.reduceNe, wk4, laidS, keepS, d1]
            have hq := hcut w hw hG (fun h => absurd h hwl)
            have hql : q.length = w := by rw [hq, List.length_take]; omega
            have hpq : PureL (q.map Bs) := by rw [pureL_eq]; exact underL_Bs.mpr trivial
            have hpt : PureL ((l.take w).map Bs) := by rw [pureL_eq]; exact underL_Bs.mpr trivial
            have f3 : decide ((q.length : Int) = (w : Int)) = true := decide_eq_true (by rw [hql])
            have f4 : decide (q = l.take w) = true := decide_eq_true hq
            have hfq : (frs q).length = endK l w := by rw [hq]; rfl
            simp only [↓wt, wu, wk0, wk1, wk2, wk3, Nat.reduceAdd, Nat.reduceEqDiff, Nat.reduceLeDiff, Nat.reduceLT, Nat.reduceMul, Int.reduceLE, Int.reduceLT, Int.reduceEq, Int.reduceNe, wk4, laidS, keepS, f3]
            refine ⟨by omega, by omega, ?_⟩
            rw [← List.map_take]
            refine icall_drop [] (frsame_call q (l.take w) (by omega)) ⟨arg_l hpq, arg_l hpt, trivial⟩ (.c _) ?_
            simp only [↓wt, wu, wk0, wk1, wk2, wk3, Nat.reduceAdd, Nat.reduceEqDiff, Nat.reduceLeDiff, Nat.reduceLT, Nat.reduceMul, Int.reduceLE, Int.reduceLT, Int.reduceEq, Int.reduceNe, wk4, laidS, keepS, f4]
            by_cases hw0 : w = 0
            · have g0 : decide ((w : Int) = 0) = true := decide_eq_true (by omega)
              have g1 : decide (((frs q).length : Int) = 0) = true := decide_eq_true (by rw [hfq, hw0]; simp [endK, frs])
              simp only [↓wt, wu, wk0, wk1, wk2, wk3, Nat.reduceAdd, Nat.reduceEqDiff, Nat.reduceLeDiff, Nat.reduceLT, Nat.reduceMul, Int.reduceLE, Int.reduceLT, Int.reduceEq, Int.reduceNe, wk4, laidS, keepS, g0, g1, Tryd.results4]
              exact exp_c
            · have g0 : decide ((w : Int) = 0) = false := decide_eq_false (by omega)
              have g1 : decide ((w : Int) > 0) = true := decide_eq_true (by omega)
              have g2 : IntKind.i64.wrap ((w : Int) - 1) = ((w - 1 : Nat) : Int) := by rw [wrap_i64 (by omega) (by omega)]; omega
              have g3 := endsL_getD (l := l) (k := l.length) (i := w - 1) (by omega)
              rw [show w - 1 + 1 = w by omega] at g3
              have g4 : decide (((frs q).length : Int) = (endK l w : Int)) = true := decide_eq_true (by rw [hfq])
              simp only [↓wt, wu, wk0, wk1, wk2, wk3, Nat.reduceAdd, Nat.reduceEqDiff, Nat.reduceLeDiff, Nat.reduceLT, Nat.reduceMul, Int.reduceLE, Int.reduceLT, Int.reduceEq, Int.reduceNe, wk4, laidS, keepS, g0, g1, g2, elem_I, encI, g3, g4, Tryd.results4]
              exact ⟨⟨by omega, by omega⟩, by omega, exp_c⟩
end Go.Ab
