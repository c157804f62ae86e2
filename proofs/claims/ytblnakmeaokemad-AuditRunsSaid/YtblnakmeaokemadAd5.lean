/- Audits: answers that the document fixes; alone. -/
import Derived.Test.YtblnakmeaokemadAd3
import Derived.Test.YtblnakmeaokemadAd4
import Derived.Test.YtblnakmeaokemadRt12
set_option linter.unusedSimpArgs false
set_option linter.unusedVariables false
set_option linter.constructorNameAsVariable false
set_option maxRecDepth 100000
namespace Go.Ab
open Go Go.Proofs Go.RowKit

theorem okR_aud {a : AudD} {v : Value} : OkR (Under 0) (.t [AudV a, .c v]) := ⟨⟨.c _, .c _, .l _ _ (pureO _), .l _ _ (pureI _), .l _ _ (pureI _), .c _, trivial⟩, .c _, trivial⟩
def cw1 : Conf := ⟨1, 1, 0, 1, 9, 0⟩
def lw1 : List RowD := [⟨0, 4, [0]⟩]
def adw1 : AudD := ⟨3, 1, [false], [0], [0], false⟩
def adw2 : AudD := ⟨3, 2, [false], [4], [0], false⟩
theorem rw1 : RightB cw1 lw1 := by decide +kernel
theorem begin_w : beginA cw1 0 3 = (adw1, 0) := by decide +kernel
theorem next_w : nextA cw1 0 adw1 lw1 = (adw2, true) := by
  rw [nextA, if_pos ⟨by decide +kernel, rw1⟩, if_pos (by decide +kernel)]; rfl
theorem ends_w : endsA cw1 0 adw2 lw1 = (5, true, true) := by
  rw [endsA, if_pos ⟨by decide +kernel, rw1, by decide +kernel, by decide +kernel⟩, if_neg (by decide +kernel)]; rfl
theorem lens_w1 : Lens lw1 := lens_dec (by decide)
set_option maxHeartbeats 2000000 in
theorem awake15_call : PCall Try.prog 23 [] (.c (.bool true)) := by
  have m1 := begin_call cw1 0 3
  rw [begin_w] at m1
  have m2 := next_call cw1 0 adw1 lw1 ⟨by decide, by decide, by decide⟩ lens_w1
  rw [next_w] at m2
  have m3 := ends_call cw1 0 adw2 lw1 ⟨by decide, by decide, by decide⟩ lens_w1
  rw [ends_w] at m3
  refine pcall_bodyA tabOk Try.func23 rfl rfl (by rw [Try.ntmps23]; simp) ?_
  simp only [Try.ntmps23]
  refine acode_sw tabOk ?_
  simp only [↓wt, wu, wk0, wk1, wk2, wk3, Nat.reduceAdd, Nat.reduceEqDiff, Nat.reduceLeDiff, Nat.reduceLT, Nat.reduceMul, Int.reduceLE, Int.reduceLT, Int.reduceEq, Int.reduceNe, wk4, laidS, keepS]
  refine .done ?_
  simp only [↓wt, wu, wk0, wk1, wk2, wk3, Nat.reduceAdd, Nat.reduceEqDiff, Nat.reduceLeDiff, Nat.reduceLT, Nat.reduceMul, Int.reduceLE, Int.reduceLT, Int.reduceEq, Int.reduceNe, wk4, laidS, keepS]
  refine acode_sw tabOk ?_
  simp only [↓wt, wu, wk0, wk1, wk2, wk3, Nat.reduceAdd, Nat.reduceEqDiff, Nat.reduceLeDiff, Nat.reduceLT, Nat.reduceMul, Int.reduceLE, Int.reduceLT, Int.reduceEq, Int.reduceNe, wk4, laidS, keepS]
  refine .done ?_
  simp only [↓wt, wu, wk0, wk1, wk2, wk3, Nat.reduceAdd, Nat.reduceEqDiff, Nat.reduceLeDiff, Nat.reduceLT, Nat.reduceMul, Int.reduceLE, Int.reduceLT, Int.reduceEq, Int.reduceNe, wk4, laidS, keepS]
  refine acode_sw tabOk ?_
  simp only [↓wt, wu, wk0, wk1, wk2, wk3, Nat.reduceAdd, Nat.reduceEqDiff, Nat.reduceLeDiff, Nat.reduceLT, Nat.reduceMul, Int.reduceLE, Int.reduceLT, Int.reduceEq, Int.reduceNe, wk4, laidS, keepS]
  refine .step 1 [1, 2] (by simp only [↓wt, wu, wk0, wk1, wk2, wk3, Nat.reduceAdd, Nat.reduceEqDiff, Nat.reduceLeDiff, Nat.reduceLT, Nat.reduceMul, Int.reduceLE, Int.reduceLT, Int.reduceEq, Int.reduceNe, wk4, laidS, keepS]; (try (repeat' (first | (exact fun _ => by simp only [pureL_eq, underL_cons, underL_nil, AV.cells, under_l, under_c, under_g, under_e, under_f, underL_B, underL_I, underL_Bs, under_Bs, List.mem_cons, List.not_mem_nil, or_false, forall_eq_or_imp, forall_eq, and_self, and_true, true_and]) | ((with_reducible refine And.intro ?_ ?_)) | (intro _) | omega | (simp only [pureL_eq, underL_cons, underL_nil, AV.cells, under_l, under_c, under_g, under_e, under_f, underL_B, underL_I, underL_Bs, under_Bs, List.mem_cons, List.not_mem_nil, or_false, forall_eq_or_imp, forall_eq, and_self, and_true, true_and])))); done) (by simp only [↓wt, wu, wk0, wk1, wk2, wk3, Nat.reduceAdd, Nat.reduceEqDiff, Nat.reduceLeDiff, Nat.reduceLT, Nat.reduceMul, Int.reduceLE, Int.reduceLT, Int.reduceEq, Int.reduceNe, wk4, laidS, keepS]; (try (repeat' (first | (exact fun _ => by simp only [pureL_eq, underL_cons, underL_nil, AV.cells, under_l, under_c, under_g, under_e, under_f, underL_B, underL_I, underL_Bs, under_Bs, List.mem_cons, List.not_mem_nil, or_false, forall_eq_or_imp, forall_eq, and_self, and_true, true_and]) | ((with_reducible refine And.intro ?_ ?_)) | (intro _) | omega | (simp only [pureL_eq, underL_cons, underL_nil, AV.cells, under_l, under_c, under_g, under_e, under_f, underL_B, underL_I, underL_Bs, under_Bs, List.mem_cons, List.not_mem_nil, or_false, forall_eq_or_imp, forall_eq, and_self, and_true, true_and])))); done) ?_; refine .step 2 [1, 2] (by simp only [↓wt, wu, wk0, wk1, wk2, wk3, Nat.reduceAdd, Nat.reduceEqDiff, Nat.reduceLeDiff, Nat.reduceLT, Nat.reduceMul, Int.reduceLE, Int.reduceLT, Int.reduceEq, Int.reduceNe, wk4, laidS, keepS]; (try (repeat' (first | (exact fun _ => by simp only [pureL_eq, underL_cons, underL_nil, AV.cells, under_l, under_c, under_g, under_e, under_f, underL_B, underL_I, underL_Bs, under_Bs, List.mem_cons, List.not_mem_nil, or_false, forall_eq_or_imp, forall_eq, and_self, and_true, true_and]) | ((with_reducible refine And.intro ?_ ?_)) | (intro _) | omega | (simp only [pureL_eq, underL_cons, underL_nil, AV.cells, under_l, under_c, under_g, under_e, under_f, underL_B, underL_I, underL_Bs, under_Bs, List.mem_cons, List.not_mem_nil, or_false, forall_eq_or_imp, forall_eq, and_self, and_true, true_and])))); done) (by simp only [↓wt, wu, wk0, wk1, wk2, wk3, Nat.reduceAdd, Nat.reduceEqDiff, Nat.reduceLeDiff, Nat.reduceLT, Nat.reduceMul, Int.reduceLE, Int.reduceLT, Int.reduceEq, Int.reduceNe, wk4, laidS, keepS]; (try (repeat' (first | (exact fun _ => by simp only [pureL_eq, underL_cons, underL_nil, AV.cells, under_l, under_c, under_g, under_e, under_f, underL_B, underL_I, underL_Bs, under_Bs, List.mem_cons, List.not_mem_nil, or_false, forall_eq_or_imp, forall_eq, and_self, and_true, true_and]) | ((with_reducible refine And.intro ?_ ?_)) | (intro _) | omega | (simp only [pureL_eq, underL_cons, underL_nil, AV.cells, under_l, under_c, under_g, under_e, under_f, underL_B, underL_I, underL_Bs, under_Bs, List.mem_cons, List.not_mem_nil, or_false, forall_eq_or_imp, forall_eq, and_self, and_true, true_and])))); done) ?_; refine .done ?_; simp only [↓wt, wu, wk0, wk1, wk2, wk3, Nat.reduceAdd, Nat.reduceEqDiff, Nat.reduceLeDiff, Nat.reduceLT, Nat.reduceMul, Int.reduceLE, Int.reduceLT, Int.reduceEq, Int.reduceNe, wk4, laidS, keepS]
  refine aw_sound tabOk _ _ _ ?_
  simp only [↓wt, wu, wk0, wk1, wk2, wk3, Nat.reduceAdd, Nat.reduceEqDiff, Nat.reduceLeDiff, Nat.reduceLT, Nat.reduceMul, Int.reduceLE, Int.reduceLT, Int.reduceEq, Int.reduceNe, wk4, laidS, keepS]
  refine icall_drop [] m1 ⟨arg_conf' (c := cw1), arg_c, arg_c, trivial⟩ okR_aud ?_
  simp only [↓wt, wu, wk0, wk1, wk2, wk3, Nat.reduceAdd, Nat.reduceEqDiff, Nat.reduceLeDiff, Nat.reduceLT, Nat.reduceMul, Int.reduceLE, Int.reduceLT, Int.reduceEq, Int.reduceNe, wk4, laidS, keepS, AudV]
  refine icall_drop [] m2 ⟨arg_conf' (c := cw1), arg_c, arg_aud (a := adw1), arg_books (l := lw1), trivial⟩ okR_aud ?_
  simp only [↓wt, wu, wk0, wk1, wk2, wk3, Nat.reduceAdd, Nat.reduceEqDiff, Nat.reduceLeDiff, Nat.reduceLT, Nat.reduceMul, Int.reduceLE, Int.reduceLT, Int.reduceEq, Int.reduceNe, wk4, laidS, keepS, AudV]
  refine icall_drop [] m3 ⟨arg_conf' (c := cw1), arg_c, arg_aud (a := adw2), arg_books (l := lw1), trivial⟩ ⟨.c _, .c _, .c _, trivial⟩ ?_
  simp only [↓wt, wu, wk0, wk1, wk2, wk3, Nat.reduceAdd, Nat.reduceEqDiff, Nat.reduceLeDiff, Nat.reduceLT, Nat.reduceMul, Int.reduceLE, Int.reduceLT, Int.reduceEq, Int.reduceNe, wk4, laidS, keepS, look_eql, adw2, Try.results23]
  exact exp_c
theorem amts0 : Amts [0] := by decide
theorem alone_next {c : Conf} {l : List RowD} {t : Int} (hn : c.n = 1) (hr : RightB c l) (ht : 1 ≤ t ∧ t ≤ 1125899906842624) :
    nextA c 0 ⟨t, 1, [false], [0], [0], false⟩ l = (⟨t, 2, [false], [(rowAt l 0).u], [0], false⟩, true) := by
  have hm : MayA c 0 ⟨t, 1, [false], [0], [0], false⟩ := ⟨⟨hr.1, by unfold There; omega⟩, .inr ⟨⟨ht.1, ht.2, (by show (1 : Int) ≤ 1; decide), (by show (1 : Int) ≤ 2; decide)⟩, ⟨hn.symm, hn.symm, hn.symm⟩, rfl, amts0, amts0⟩⟩
  rw [nextA, if_pos ⟨hm, hr⟩, if_pos]
  · rfl
  · refine ⟨rfl, fun k hk hw => ?_, fun h => ?_⟩
    · simp at hk; omega
    · have := h.1.1; simp only at this; omega
theorem alone_may {c : Conf} {l : List RowD} {t : Int} (hn : c.n = 1) (hr : RightB c l) (ht : 1 ≤ t ∧ t ≤ 1125899906842624) : MayA c 0 ⟨t, 2, [false], [(rowAt l 0).u], [0], false⟩ := by
  have hl : 0 < l.length := by have := hr.2.1.1; omega
  have hrow := hr.2.1.row hr.1 hl
  refine ⟨⟨hr.1, by unfold There; omega⟩, .inr ⟨⟨ht.1, ht.2, (by show (1 : Int) ≤ 2; decide), (by show (2 : Int) ≤ 2; decide)⟩, ⟨hn.symm, hn.symm, hn.symm⟩, rfl, fun v hv => ?_, amts0⟩⟩
  rw [List.mem_singleton.1 hv]
  exact hrow.2.2.2.1
theorem alone_all {l : List RowD} {t : Int} (ht : 1 ≤ t ∧ t ≤ 1125899906842624) {u i : List Int} : AllA 0 ⟨t, 2, [false], u, i, false⟩ :=
  ⟨fun k hk hw => by simp at hk; omega, fun h => by have := h.1.1; simp only at this; omega⟩
theorem alone_again {c : Conf} {l : List RowD} {t : Int} (hn : c.n = 1) (hr : RightB c l) (ht : 1 ≤ t ∧ t ≤ 1125899906842624) :
    nextA c 0 ⟨t, 2, [false], [(rowAt l 0).u], [0], false⟩ l = (⟨t, 2, [false], [(rowAt l 0).u], [0], false⟩, false) := by
  rw [nextA, if_pos ⟨alone_may hn hr ht, hr⟩, if_neg fun h => by have := h.1; simp only at this; omega]
theorem alone_ends {c : Conf} {l : List RowD} {t : Int} (hn : c.n = 1) (hr : RightB c l) (ht : 1 ≤ t ∧ t ≤ 1125899906842624) :
    endsA c 0 ⟨t, 2, [false], [(rowAt l 0).u], [0], false⟩ l = (valC c l, true, true) := by
  have hl : l.length = 1 := by have := hr.2.1.1; omega
  rw [endsA, if_pos ⟨alone_may hn hr ht, hr, rfl, alone_all (l := l) ht⟩, if_neg, valC, if_pos hr]
  · rw [hl]; rfl
  · rintro (h | h)
    · cases h
    · exact h rfl
set_option maxHeartbeats 4000000 in
theorem alone_law (c : Conf) (t : Int) (l : List RowD) (hw : Wide l) : PCall Try.prog 6 [ConfA c, .c (.int .i64 t), BooksV l] (.c (.bool true)) := by
  refine pcall_body tabOk Try.func6 rfl rfl (by rw [Try.ntmps6]; simp) ?_
  simp only [Try.ntmps6, ConfA, BooksV]
  simp only [↓wt, wu, wk0, wk1, wk2, wk3, Nat.reduceAdd, Nat.reduceEqDiff, Nat.reduceLeDiff, Nat.reduceLT, Nat.reduceMul, Int.reduceLE, Int.reduceLT, Int.reduceEq, Int.reduceNe, wk4, laidS, keepS]
  refine icall_drop [] awake15_call trivial (.c _) ?_
  simp only [↓wt, wu, wk0, wk1, wk2, wk3, Nat.reduceAdd, Nat.reduceEqDiff, Nat.reduceLeDiff, Nat.reduceLT, Nat.reduceMul, Int.reduceLE, Int.reduceLT, Int.reduceEq, Int.reduceNe, wk4, laidS, keepS]
  refine icall_drop [] (short_call l hw) ⟨arg_books, trivial⟩ (.c _) ?_
  simp only [↓wt, wu, wk0, wk1, wk2, wk3, Nat.reduceAdd, Nat.reduceEqDiff, Nat.reduceLeDiff, Nat.reduceLT, Nat.reduceMul, Int.reduceLE, Int.reduceLT, Int.reduceEq, Int.reduceNe, wk4, laidS, keepS]
  refine r_gcasesN (fun hs hb => ?_) (fun hs hb => ?_) <;> simp only [↓wt, wu, wk0, wk1, wk2, wk3, Nat.reduceAdd, Nat.reduceEqDiff, Nat.reduceLeDiff, Nat.reduceLT, Nat.reduceMul, Int.reduceLE, Int.reduceLT, Int.reduceEq, Int.reduceNe, wk4, laidS, keepS, hb]
  rotate_left
  · simp only [↓wt, wu, wk0, wk1, wk2, wk3, Nat.reduceAdd, Nat.reduceEqDiff, Nat.reduceLeDiff, Nat.reduceLT, Nat.reduceMul, Int.reduceLE, Int.reduceLT, Int.reduceEq, Int.reduceNe, wk4, laidS, keepS, Try.results6]
    exact exp_c
  have hr : Lens l := short_lens hs
  by_cases hn : c.n = 1
  rotate_left
  · have f1 : decide (c.n = 1) = false := decide_eq_false hn
    simp only [↓wt, wu, wk0, wk1, wk2, wk3, Nat.reduceAdd, Nat.reduceEqDiff, Nat.reduceLeDiff, Nat.reduceLT, Nat.reduceMul, Int.reduceLE, Int.reduceLT, Int.reduceEq, Int.reduceNe, wk4, laidS, keepS, f1, Try.results6]
    exact exp_c
  have f1 : decide (c.n = 1) = true := decide_eq_true hn
  simp only [↓wt, wu, wk0, wk1, wk2, wk3, Nat.reduceAdd, Nat.reduceEqDiff, Nat.reduceLeDiff, Nat.reduceLT, Nat.reduceMul, Int.reduceLE, Int.reduceLT, Int.reduceEq, Int.reduceNe, wk4, laidS, keepS, f1]
  refine icall_drop [] (rright_call c l hr) ⟨arg_conf', arg_books, trivial⟩ (.c _) ?_
  simp only [↓wt, wu, wk0, wk1, wk2, wk3, Nat.reduceAdd, Nat.reduceEqDiff, Nat.reduceLeDiff, Nat.reduceLT, Nat.reduceMul, Int.reduceLE, Int.reduceLT, Int.reduceEq, Int.reduceNe, wk4, laidS, keepS]
  refine r_casesN (fun h2 hb2 => ?_) (fun h2 hb2 => ?_) <;> simp only [↓wt, wu, wk0, wk1, wk2, wk3, Nat.reduceAdd, Nat.reduceEqDiff, Nat.reduceLeDiff, Nat.reduceLT, Nat.reduceMul, Int.reduceLE, Int.reduceLT, Int.reduceEq, Int.reduceNe, wk4, laidS, keepS, hb2]
  rotate_left
  · simp only [↓wt, wu, wk0, wk1, wk2, wk3, Nat.reduceAdd, Nat.reduceEqDiff, Nat.reduceLeDiff, Nat.reduceLT, Nat.reduceMul, Int.reduceLE, Int.reduceLT, Int.reduceEq, Int.reduceNe, wk4, laidS, keepS, Try.results6]
    exact exp_c
  have hth : ThereC c 0 := ⟨h2.1, by unfold There; omega⟩
  refine icall_drop [] (begin_call c 0 t) ⟨arg_conf', arg_c, arg_c, trivial⟩ okR_aud ?_
  by_cases ht : 1 ≤ t ∧ t ≤ 1125899906842624
  rotate_left
  · have hb0 : beginA c 0 t = (aud0, 1) := by rw [beginA, if_neg fun h => ht h.2]
    rw [hb0]
    simp only [↓wt, wu, wk0, wk1, wk2, wk3, Nat.reduceAdd, Nat.reduceEqDiff, Nat.reduceLeDiff, Nat.reduceLT, Nat.reduceMul, Int.reduceLE, Int.reduceLT, Int.reduceEq, Int.reduceNe, wk4, laidS, keepS, AudV]
    repeat' (first | (refine r_casesD (fun hp hb => ?_) (fun hp hb => ?_) <;> simp only [↓wt, wu, wk0, wk1, wk2, wk3, Nat.reduceAdd, Nat.reduceEqDiff, Nat.reduceLeDiff, Nat.reduceLT, Nat.reduceMul, Int.reduceLE, Int.reduceLT, Int.reduceEq, Int.reduceNe, wk4, laidS, keepS, Try.results6, hb]) | (refine r_casesN (fun hp hb => ?_) (fun hp hb => ?_) <;> simp only [↓wt, wu, wk0, wk1, wk2, wk3, Nat.reduceAdd, Nat.reduceEqDiff, Nat.reduceLeDiff, Nat.reduceLT, Nat.reduceMul, Int.reduceLE, Int.reduceLT, Int.reduceEq, Int.reduceNe, wk4, laidS, keepS, Try.results6, hb]) | (refine r_casesM (fun hp hb => ?_) (fun hp hb => ?_) <;> simp only [↓wt, wu, wk0, wk1, wk2, wk3, Nat.reduceAdd, Nat.reduceEqDiff, Nat.reduceLeDiff, Nat.reduceLT, Nat.reduceMul, Int.reduceLE, Int.reduceLT, Int.reduceEq, Int.reduceNe, wk4, laidS, keepS, Try.results6, hb]) | (refine r_casesB (fun hp hb => ?_) (fun hp hb => ?_) <;> simp only [↓wt, wu, wk0, wk1, wk2, wk3, Nat.reduceAdd, Nat.reduceEqDiff, Nat.reduceLeDiff, Nat.reduceLT, Nat.reduceMul, Int.reduceLE, Int.reduceLT, Int.reduceEq, Int.reduceNe, wk4, laidS, keepS, Try.results6, hb]) | (refine r_gcasesD (fun hp hb => ?_) (fun hp hb => ?_) <;> simp only [↓wt, wu, wk0, wk1, wk2, wk3, Nat.reduceAdd, Nat.reduceEqDiff, Nat.reduceLeDiff, Nat.reduceLT, Nat.reduceMul, Int.reduceLE, Int.reduceLT, Int.reduceEq, Int.reduceNe, wk4, laidS, keepS, Try.results6, hb]) | (refine r_gcasesN (fun hp hb => ?_) (fun hp hb => ?_) <;> simp only [↓wt, wu, wk0, wk1, wk2, wk3, Nat.reduceAdd, Nat.reduceEqDiff, Nat.reduceLeDiff, Nat.reduceLT, Nat.reduceMul, Int.reduceLE, Int.reduceLT, Int.reduceEq, Int.reduceNe, wk4, laidS, keepS, Try.results6, hb]) | (refine r_gcasesM (fun hp hb => ?_) (fun hp hb => ?_) <;> simp only [↓wt, wu, wk0, wk1, wk2, wk3, Nat.reduceAdd, Nat.reduceEqDiff, Nat.reduceLeDiff, Nat.reduceLT, Nat.reduceMul, Int.reduceLE, Int.reduceLT, Int.reduceEq, Int.reduceNe, wk4, laidS, keepS, Try.results6, hb]) | (refine r_gcasesB (fun hp hb => ?_) (fun hp hb => ?_) <;> simp only [↓wt, wu, wk0, wk1, wk2, wk3, Nat.reduceAdd, Nat.reduceEqDiff, Nat.reduceLeDiff, Nat.reduceLT, Nat.reduceMul, Int.reduceLE, Int.reduceLT, Int.reduceEq, Int.reduceNe, wk4, laidS, keepS, Try.results6, hb]) | ((with_reducible refine And.intro ?_ ?_); omega) | fail)
    · exact exp_c
    · have f3 : decide (t > 1125899906842624) = true := decide_eq_true (by omega)
      rw [f3]; exact exp_c
  have hb1 : beginA c 0 t = (⟨t, 1, [false], [0], [0], false⟩, 0) := by rw [beginA, if_pos ⟨hth, ht.1, ht.2⟩, hn]; rfl
  rw [hb1]
  simp only [↓wt, wu, wk0, wk1, wk2, wk3, Nat.reduceAdd, Nat.reduceEqDiff, Nat.reduceLeDiff, Nat.reduceLT, Nat.reduceMul, Int.reduceLE, Int.reduceLT, Int.reduceEq, Int.reduceNe, wk4, laidS, keepS, AudV]
  have m1 := next_call c 0 ⟨t, 1, [false], [0], [0], false⟩ l ⟨by simp, by simp, by simp⟩ hr
  rw [alone_next hn h2 ht] at m1
  refine icall_drop [] m1 ⟨arg_conf', arg_c, arg_aud (a := ⟨t, 1, [false], [0], [0], false⟩), arg_books, trivial⟩ okR_aud ?_
  simp only [↓wt, wu, wk0, wk1, wk2, wk3, Nat.reduceAdd, Nat.reduceEqDiff, Nat.reduceLeDiff, Nat.reduceLT, Nat.reduceMul, Int.reduceLE, Int.reduceLT, Int.reduceEq, Int.reduceNe, wk4, laidS, keepS, AudV]
  have m2 := ends_call c 0 ⟨t, 2, [false], [(rowAt l 0).u], [0], false⟩ l ⟨by simp, by simp, by simp⟩ hr
  rw [alone_ends hn h2 ht] at m2
  refine icall_drop [] m2 ⟨arg_conf', arg_c, arg_aud (a := ⟨t, 2, [false], [(rowAt l 0).u], [0], false⟩), arg_books, trivial⟩ ⟨.c _, .c _, .c _, trivial⟩ ?_
  simp only [↓wt, wu, wk0, wk1, wk2, wk3, Nat.reduceAdd, Nat.reduceEqDiff, Nat.reduceLeDiff, Nat.reduceLT, Nat.reduceMul, Int.reduceLE, Int.reduceLT, Int.reduceEq, Int.reduceNe, wk4, laidS, keepS]
  have m3 := next_call c 0 ⟨t, 2, [false], [(rowAt l 0).u], [0], false⟩ l ⟨by simp, by simp, by simp⟩ hr
  rw [alone_again hn h2 ht] at m3
  refine icall_drop [] m3 ⟨arg_conf', arg_c, arg_aud (a := ⟨t, 2, [false], [(rowAt l 0).u], [0], false⟩), arg_books, trivial⟩ okR_aud ?_
  simp only [↓wt, wu, wk0, wk1, wk2, wk3, Nat.reduceAdd, Nat.reduceEqDiff, Nat.reduceLeDiff, Nat.reduceLT, Nat.reduceMul, Int.reduceLE, Int.reduceLT, Int.reduceEq, Int.reduceNe, wk4, laidS, keepS, AudV]
  refine icall_drop [] (rvalue_call c l hr) ⟨arg_conf', arg_books, trivial⟩ (.c _) ?_
  simp only [↓wt, wu, wk0, wk1, wk2, wk3, Nat.reduceAdd, Nat.reduceEqDiff, Nat.reduceLeDiff, Nat.reduceLT, Nat.reduceMul, Int.reduceLE, Int.reduceLT, Int.reduceEq, Int.reduceNe, wk4, laidS, keepS, Try.results6]
  exact exp_c
end Go.Ab
