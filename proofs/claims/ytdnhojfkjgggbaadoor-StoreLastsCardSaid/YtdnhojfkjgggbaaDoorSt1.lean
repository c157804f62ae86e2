/- Store: what is had, opened. -/
import Derived.Test.YtdnhojfkjgggbaaDoorTq7
set_option linter.unusedSimpArgs false
set_option linter.unusedVariables false
set_option linter.constructorNameAsVariable false
set_option maxRecDepth 100000
namespace Go.Ab
open Go Go.Proofs Go.RowKit

theorem arg_tvE {M : Mem} {ids : List Nat} {x1 x2 x3 x4 : List AV} {t : Tape4} (h1 : x1 = t.a.map encB) (h2 : x2 = t.b.map encB) (h3 : x3 = t.c.map encB) (h4 : x4 = t.d.map encB) : VOkA M (.g [.l 1 x1, .l 1 x2, .l 1 x3, .l 1 x4]) ∧
    (∀ k ∈ idsA (.g [.l 1 x1, .l 1 x2, .l 1 x3, .l 1 x4]), k ∈ ids) ∧ Weak (viewA M (.g [.l 1 x1, .l 1 x2, .l 1 x3, .l 1 x4])) (tv t) ∧ Under 0 (tv t) := by
  subst h1 h2 h3 h4; exact arg_tape
theorem pure_tv {x1 x2 x3 x4 : List AV} {t : Tape4} (h1 : x1 = t.a.map encB) (h2 : x2 = t.b.map encB) (h3 : x3 = t.c.map encB) (h4 : x4 = t.d.map encB) : PureL [.g [.l 1 x1, .l 1 x2, .l 1 x3, .l 1 x4]] := by
  subst h1 h2 h3 h4
  simp only [pureL_eq, underL_cons, underL_nil, AV.cells, under_l, underL_B, List.mem_cons, List.not_mem_nil, or_false, forall_eq_or_imp, forall_eq, and_self]
/-- A tape of which cells are missing. -/
theorem arg_gw4 {M : Mem} {ids : List Nat} {l : List AV} {t : Tape4} (h : ArgCL M ids l [Bs t.a, Bs t.b, Bs t.c, Bs t.d]) : VOkA M (.g l) ∧ (∀ k ∈ idsA (.g l), k ∈ ids) ∧ Weak (viewA M (.g l)) (tv t) ∧ Under 0 (tv t) := arg_gL h
/-- The last of a row, if there is one. -/
def lastD (l : List (List UInt8)) : List UInt8 := l.getD (l.length - 1) []
/-- Frames of the main area. -/
noncomputable def mainF (t : Tape4) : List (List UInt8) := scP (t.a ++ t.b)
noncomputable def opT (t : Tape4) : Tape4 := ⟨frs (mainF t), [], [], []⟩
theorem mainF_pre (t : Tape4) : (t.a ++ t.b).take (frs (mainF t)).length = frs (mainF t) ∧ (frs (mainF t)).length ≤ t.a.length + t.b.length := by
  obtain ⟨r, h1, h2, h3⟩ := scP_is (t.a ++ t.b)
  have h4 : (frs (mainF t)).length ≤ (t.a ++ t.b).length := by
    conv => rhs; rw [h1]
    rw [List.length_append]; exact Nat.le_add_right _ _
  refine ⟨?_, by rw [List.length_append] at h4; exact h4⟩
  conv => lhs; rw [h1]
  exact List.take_left' rfl
/-- Cut, wiped and synced it is opened. -/
theorem opT_eq (t : Tape4) : syT (cuT (wiT t) ((frs (mainF t)).length : Nat)) false = opT t := by
  obtain ⟨h1, h2⟩ := mainF_pre t
  have h3 : (((frs (mainF t)).length : Int) - (t.a.length : Int)).toNat = (frs (mainF t)).length - t.a.length := by omega
  simp only [syT, cuT, wiT, opT, cond_false, Int.toNat_natCast, h3]
  rw [← List.take_append, h1]
theorem scP_frs (b : List UInt8) : scP (frs (scP b)) = scP b := by
  obtain ⟨r, h1, h2, h3⟩ := scP_is b
  exact sc_all h3
theorem opT_opT (t : Tape4) : opT (opT t) = opT t := by
  show (⟨frs (scP (frs (mainF t) ++ [])), [], [], []⟩ : Tape4) = _
  rw [List.append_nil]
  show (⟨frs (scP (frs (scP (t.a ++ t.b)))), [], [], []⟩ : Tape4) = _
  rw [scP_frs]; rfl
theorem mainF_opT (t : Tape4) : mainF (opT t) = mainF t := by
  show scP (frs (mainF t) ++ []) = _
  rw [List.append_nil]
  exact scP_frs _
def Tape4.Lt (t : Tape4) : Prop := t.a.length ≤ 100000 ∧ t.b.length ≤ 100000 ∧ t.c.length ≤ 100000 ∧ t.d.length ≤ 100000
theorem Tape4.Lt.fit {t : Tape4} (h : t.Lt) : t.Fit := by
  obtain ⟨h1, h2, h3, h4⟩ := h
  refine ⟨?_, ?_, ?_, ?_⟩ <;> unfold Fit8 <;> omega
theorem opT_Lt {t : Tape4} (h : t.a.length + t.b.length ≤ 100000) : (opT t).Lt := by
  have := (mainF_pre t).2
  refine ⟨?_, ?_, ?_, ?_⟩ <;> simp only [opT, List.length_nil] <;> omega
def hasV (l : List (List UInt8)) : AV := .t [Bs (lastD l), .c (.bool (decide (l.length ≠ 0)))]
set_option maxHeartbeats 2000000 in
theorem has_call (t : Tape4) (ht : t.Lt) : PCall Tryd.prog 19 [tv t] (hasV (mainF t)) := by
  obtain ⟨g1, g2⟩ := mainF_pre t
  have hl := frs_len (mainF t)
  have hf := ht.fit
  obtain ⟨h1, h2, h3, h4⟩ := ht
  have m1 := bytes_call t.a t.b hf.1 hf.2.1
  have m2 := fscan_call (t.a ++ t.b) (by rw [List.length_append]; omega)
  change PCall _ _ _ (.t [.l 1 ((mainF t).map Bs), .c (.int .i64 (frs (mainF t)).length)]) at m2
  refine pcall_body tabOk Tryd.func19 rfl rfl (by rw [Tryd.ntmps19]; simp) ?_
  simp only [Tryd.ntmps19, tv, TapeA, Bs, hasV]
  simp only [↓wt, wu, wk0, wk1, wk2, wk3, Nat.reduceAdd, Nat.reduceEqDiff, Nat.reduceLeDiff, Nat.reduceLT, Nat.reduceMul, Int.reduceLE, Int.reduceLT, Int.reduceEq, Int.reduceNe, wk4, laidS, keepS]
  refine icall_drop [] m1 ⟨arg_area, trivial⟩ okR_Bs ?_
  simp only [↓wt, wu, wk0, wk1, wk2, wk3, Nat.reduceAdd, Nat.reduceEqDiff, Nat.reduceLeDiff, Nat.reduceLT, Nat.reduceMul, Int.reduceLE, Int.reduceLT, Int.reduceEq, Int.reduceNe, wk4, laidS, keepS, Bs]
  refine icall_drop [] m2 ⟨arg_l (pureB _), trivial⟩ okR_scan ?_
  simp only [↓wt, wu, wk0, wk1, wk2, wk3, Nat.reduceAdd, Nat.reduceEqDiff, Nat.reduceLeDiff, Nat.reduceLT, Nat.reduceMul, Int.reduceLE, Int.reduceLT, Int.reduceEq, Int.reduceNe, wk4, laidS, keepS, Bs]
  generalize mainF t = l at *
  by_cases h0 : (l.length : Int) = 0
  · have d1 : decide ((l.length : Int) = 0) = true := decide_eq_true h0
    have e1 : l = [] := List.eq_nil_of_length_eq_zero (by omega)
    simp only [↓wt, wu, wk0, wk1, wk2, wk3, Nat.reduceAdd, Nat.reduceEqDiff, Nat.reduceLeDiff, Nat.reduceLT, Nat.reduceMul, Int.reduceLE, Int.reduceLT, Int.reduceEq, Int.reduceNe, wk4, laidS, keepS, d1, Tryd.results19]
    subst e1
    exact exp_t ⟨⟨weak_nil, okR_nil⟩, ⟨weak_c, .c _⟩, trivial⟩
  · have d1 : decide ((l.length : Int) = 0) = false := decide_eq_false h0
    have d2 : decide (l.length ≠ 0) = true := decide_eq_true (by omega)
    have e2 : IntKind.i64.wrap ((l.length : Int) - 1) = ((l.length - 1 : Nat) : Int) := by rw [wrap_i64 (by omega) (by omega)]; omega
    simp only [↓wt, wu, wk0, wk1, wk2, wk3, Nat.reduceAdd, Nat.reduceEqDiff, Nat.reduceLeDiff, Nat.reduceLT, Nat.reduceMul, Int.reduceLE, Int.reduceLT, Int.reduceEq, Int.reduceNe, wk4, laidS, keepS, d1, e2, elem_Bs, Bs, lastD, d2, Tryd.results19]
    exact ⟨by omega, by omega, by omega, exp_t ⟨⟨weak_l, okR_Bs⟩, ⟨weak_c, .c _⟩, trivial⟩⟩
set_option maxHeartbeats 2000000 in
theorem rhas_call (t : Tape4) (ht : t.Lt) : PCall Tryd.prog 21 [tv t] (hasV (mainF t)) := by
  obtain ⟨g1, g2⟩ := mainF_pre t
  have hl := frs_len (mainF t)
  have hf := ht.fit
  obtain ⟨h1, h2, h3, h4⟩ := ht
  have m1 := rbytes_call t.a t.b hf.1 hf.2.1
  have m2 := frscan_call (t.a ++ t.b) (by rw [List.length_append]; omega)
  change PCall _ _ _ (.t [.l 1 ((mainF t).map Bs), .c (.int .i64 (frs (mainF t)).length)]) at m2
  refine pcall_body tabOk Tryd.func21 rfl rfl (by rw [Tryd.ntmps21]; simp) ?_
  simp only [Tryd.ntmps21, tv, TapeA, Bs, hasV]
  simp only [↓wt, wu, wk0, wk1, wk2, wk3, Nat.reduceAdd, Nat.reduceEqDiff, Nat.reduceLeDiff, Nat.reduceLT, Nat.reduceMul, Int.reduceLE, Int.reduceLT, Int.reduceEq, Int.reduceNe, wk4, laidS, keepS]
  refine icall_drop [] m1 ⟨arg_area, trivial⟩ okR_Bs ?_
  simp only [↓wt, wu, wk0, wk1, wk2, wk3, Nat.reduceAdd, Nat.reduceEqDiff, Nat.reduceLeDiff, Nat.reduceLT, Nat.reduceMul, Int.reduceLE, Int.reduceLT, Int.reduceEq, Int.reduceNe, wk4, laidS, keepS, Bs]
  refine icall_drop [] m2 ⟨arg_l (pureB _), trivial⟩ okR_scan ?_
  simp only [↓wt, wu, wk0, wk1, wk2, wk3, Nat.reduceAdd, Nat.reduceEqDiff, Nat.reduceLeDiff, Nat.reduceLT, Nat.reduceMul, Int.reduceLE, Int.reduceLT, Int.reduceEq, Int.reduceNe, wk4, laidS, keepS, Bs]
  generalize mainF t = l at *
  by_cases h0 : (l.length : Int) = 0
  · have d1 : decide ((l.length : Int) = 0) = true := decide_eq_true h0
    have e1 : l = [] := List.eq_nil_of_length_eq_zero (by omega)
    simp only [↓wt, wu, wk0, wk1, wk2, wk3, Nat.reduceAdd, Nat.reduceEqDiff, Nat.reduceLeDiff, Nat.reduceLT, Nat.reduceMul, Int.reduceLE, Int.reduceLT, Int.reduceEq, Int.reduceNe, wk4, laidS, keepS, d1, Tryd.results21]
    subst e1
    exact exp_t ⟨⟨weak_nil, okR_nil⟩, ⟨weak_c, .c _⟩, trivial⟩
  · have d1 : decide ((l.length : Int) = 0) = false := decide_eq_false h0
    have d2 : decide (l.length ≠ 0) = true := decide_eq_true (by omega)
    have e2 : IntKind.i64.wrap ((l.length : Int) - 1) = ((l.length - 1 : Nat) : Int) := by rw [wrap_i64 (by omega) (by omega)]; omega
    simp only [↓wt, wu, wk0, wk1, wk2, wk3, Nat.reduceAdd, Nat.reduceEqDiff, Nat.reduceLeDiff, Nat.reduceLT, Nat.reduceMul, Int.reduceLE, Int.reduceLT, Int.reduceEq, Int.reduceNe, wk4, laidS, keepS, d1, e2, elem_Bs, Bs, lastD, d2, Tryd.results21]
    exact ⟨by omega, by omega, by omega, exp_t ⟨⟨weak_l, okR_Bs⟩, ⟨weak_c, .c _⟩, trivial⟩⟩
set_option maxHeartbeats 2000000 in
theorem open_call (t : Tape4) (ht : t.Lt) : PCall Tryd.prog 18 [tv t] (tv (opT t)) := by
  obtain ⟨g1, g2⟩ := mainF_pre t
  have hl := frs_len (mainF t)
  have he := opT_eq t
  have hf := ht.fit
  obtain ⟨h1, h2, h3, h4⟩ := ht
  have m1 := bytes_call t.a t.b hf.1 hf.2.1
  have m2 := fscan_call (t.a ++ t.b) (by rw [List.length_append]; omega)
  change PCall _ _ _ (.t [.l 1 ((mainF t).map Bs), .c (.int .i64 (frs (mainF t)).length)]) at m2
  have m3 := wipe_call t
  have hw : (wiT t).Fit := ⟨hf.1, hf.2.1, by simp [wiT, Fit8], by simp [wiT, Fit8]⟩
  have m4 := cut_call (wiT t) ((frs (mainF t)).length : Nat) (by omega) (by omega) hw
  have hc : (cuT (wiT t) ((frs (mainF t)).length : Nat)).Fit := by
    refine ⟨?_, ?_, ?_, ?_⟩ <;> simp only [cuT, wiT, Fit8, List.length_take, List.length_nil] <;> omega
  have m5 := sync_call (cuT (wiT t) ((frs (mainF t)).length : Nat)) false hc
  rw [he] at m5
  refine pcall_body tabOk Tryd.func18 rfl rfl (by rw [Tryd.ntmps18]; simp) ?_
  simp only [Tryd.ntmps18, tv, TapeA, Bs]
  simp only [↓wt, wu, wk0, wk1, wk2, wk3, Nat.reduceAdd, Nat.reduceEqDiff, Nat.reduceLeDiff, Nat.reduceLT, Nat.reduceMul, Int.reduceLE, Int.reduceLT, Int.reduceEq, Int.reduceNe, wk4, laidS, keepS]
  refine icall_drop [] m1 ⟨arg_area, trivial⟩ okR_Bs ?_
  simp only [↓wt, wu, wk0, wk1, wk2, wk3, Nat.reduceAdd, Nat.reduceEqDiff, Nat.reduceLeDiff, Nat.reduceLT, Nat.reduceMul, Int.reduceLE, Int.reduceLT, Int.reduceEq, Int.reduceNe, wk4, laidS, keepS, Bs]
  refine icall_drop [] m2 ⟨arg_l (pureB _), trivial⟩ okR_scan ?_
  simp only [↓wt, wu, wk0, wk1, wk2, wk3, Nat.reduceAdd, Nat.reduceEqDiff, Nat.reduceLeDiff, Nat.reduceLT, Nat.reduceMul, Int.reduceLE, Int.reduceLT, Int.reduceEq, Int.reduceNe, wk4, laidS, keepS, Bs]
  refine icall_drop [] m3 ⟨arg_tvE rfl rfl rfl rfl, trivial⟩ okR_tape ?_
  simp only [↓wt, wu, wk0, wk1, wk2, wk3, Nat.reduceAdd, Nat.reduceEqDiff, Nat.reduceLeDiff, Nat.reduceLT, Nat.reduceMul, Int.reduceLE, Int.reduceLT, Int.reduceEq, Int.reduceNe, wk4, laidS, keepS, tv, TapeA, Bs]
  refine icall_drop [] m4 ⟨arg_tvE rfl rfl rfl rfl, arg_c, trivial⟩ okR_tape ?_
  simp only [↓wt, wu, wk0, wk1, wk2, wk3, Nat.reduceAdd, Nat.reduceEqDiff, Nat.reduceLeDiff, Nat.reduceLT, Nat.reduceMul, Int.reduceLE, Int.reduceLT, Int.reduceEq, Int.reduceNe, wk4, laidS, keepS, tv, TapeA, Bs]
  refine icall_drop [] m5 ⟨arg_tvE rfl rfl rfl rfl, arg_c, trivial⟩ okR_tape ?_
  simp only [↓wt, wu, wk0, wk1, wk2, wk3, Nat.reduceAdd, Nat.reduceEqDiff, Nat.reduceLeDiff, Nat.reduceLT, Nat.reduceMul, Int.reduceLE, Int.reduceLT, Int.reduceEq, Int.reduceNe, wk4, laidS, keepS, tv, TapeA, Bs, Tryd.results18]
  exact exp_gw ⟨.refl _, okR_Bs, .refl _, okR_Bs, .refl _, okR_Bs, .refl _, okR_Bs, trivial⟩
set_option maxHeartbeats 2000000 in
theorem ropen_call (t : Tape4) (ht : t.Lt) : PCall Tryd.prog 22 [tv t] (tv (opT t)) := by
  obtain ⟨g1, g2⟩ := mainF_pre t
  have hl := frs_len (mainF t)
  have hf := ht.fit
  obtain ⟨h1, h2, h3, h4⟩ := ht
  have m1 := rbytes_call t.a t.b hf.1 hf.2.1
  have m2 := frscan_call (t.a ++ t.b) (by rw [List.length_append]; omega)
  change PCall _ _ _ (.t [.l 1 ((mainF t).map Bs), .c (.int .i64 (frs (mainF t)).length)]) at m2
  refine pcall_body tabOk Tryd.func22 rfl rfl (by rw [Tryd.ntmps22]; simp) ?_
  simp only [Tryd.ntmps22, tv, TapeA, Bs]
  simp only [↓wt, wu, wk0, wk1, wk2, wk3, Nat.reduceAdd, Nat.reduceEqDiff, Nat.reduceLeDiff, Nat.reduceLT, Nat.reduceMul, Int.reduceLE, Int.reduceLT, Int.reduceEq, Int.reduceNe, wk4, laidS, keepS]
  refine icall_drop [] m1 ⟨arg_area, trivial⟩ okR_Bs ?_
  simp only [↓wt, wu, wk0, wk1, wk2, wk3, Nat.reduceAdd, Nat.reduceEqDiff, Nat.reduceLeDiff, Nat.reduceLT, Nat.reduceMul, Int.reduceLE, Int.reduceLT, Int.reduceEq, Int.reduceNe, wk4, laidS, keepS, Bs]
  refine icall_drop [] m2 ⟨arg_l (pureB _), trivial⟩ okR_scan ?_
  simp only [↓wt, wu, wk0, wk1, wk2, wk3, Nat.reduceAdd, Nat.reduceEqDiff, Nat.reduceLeDiff, Nat.reduceLT, Nat.reduceMul, Int.reduceLE, Int.reduceLT, Int.reduceEq, Int.reduceNe, wk4, laidS, keepS, Bs]
  refine ⟨by omega, by omega, ?_⟩
  simp only [↓wt, wu, wk0, wk1, wk2, wk3, Nat.reduceAdd, Nat.reduceEqDiff, Nat.reduceLeDiff, Nat.reduceLT, Nat.reduceMul, Int.reduceLE, Int.reduceLT, Int.reduceEq, Int.reduceNe, wk4, laidS, keepS, g1, Tryd.results22]
  exact exp_gw ⟨.refl _, okR_Bs, trivial, okR_nil, trivial, okR_nil, trivial, okR_nil, trivial⟩
/-- The same tape? -/
def sameT (t u : Tape4) : Bool := t.a == u.a && (t.b == u.b && (t.c == u.c && t.d == u.d))
theorem sameT_iff {t u : Tape4} : sameT t u = true ↔ t = u := by
  obtain ⟨a, b, c, d⟩ := t
  obtain ⟨e, f, g, h⟩ := u
  simp [sameT]
set_option maxHeartbeats 4000000 in
theorem sameG_call (t u : Tape4) : PCall Tryd.prog 20 [tv t, tv u] (.c (.bool (sameT t u))) := by
  refine pcall_body tabOk Tryd.func20 rfl rfl (by rw [Tryd.ntmps20]; simp) ?_
  simp only [Tryd.ntmps20, tv, TapeA, Bs, sameT]
  simp only [↓wt, wu, wk0, wk1, wk2, wk3, Nat.reduceAdd, Nat.reduceEqDiff, Nat.reduceLeDiff, Nat.reduceLT, Nat.reduceMul, Int.reduceLE, Int.reduceLT, Int.reduceEq, Int.reduceNe, wk4, laidS, keepS]
  cases f1 : t.a == u.a with
  | false => simp only [↓wt, wu, wk0, wk1, wk2, wk3, Nat.reduceAdd, Nat.reduceEqDiff, Nat.reduceLeDiff, Nat.reduceLT, Nat.reduceMul, Int.reduceLE, Int.reduceLT, Int.reduceEq, Int.reduceNe, wk4, laidS, keepS, f1, Bool.false_and, Tryd.results20]; exact exp_c
  | true =>
    simp only [↓wt, wu, wk0, wk1, wk2, wk3, Nat.reduceAdd, Nat.reduceEqDiff, Nat.reduceLeDiff, Nat.reduceLT, Nat.reduceMul, Int.reduceLE, Int.reduceLT, Int.reduceEq, Int.reduceNe, wk4, laidS, keepS, f1]
    cases f2 : t.b == u.b with
    | false => simp only [↓wt, wu, wk0, wk1, wk2, wk3, Nat.reduceAdd, Nat.reduceEqDiff, Nat.reduceLeDiff, Nat.reduceLT, Nat.reduceMul, Int.reduceLE, Int.reduceLT, Int.reduceEq, Int.reduceNe, wk4, laidS, keepS, f1, f2, Bool.false_and, Bool.true_and, Tryd.results20]; exact exp_c
    | true =>
      simp only [↓wt, wu, wk0, wk1, wk2, wk3, Nat.reduceAdd, Nat.reduceEqDiff, Nat.reduceLeDiff, Nat.reduceLT, Nat.reduceMul, Int.reduceLE, Int.reduceLT, Int.reduceEq, Int.reduceNe, wk4, laidS, keepS, f1, f2]
      cases f3 : t.c == u.c with
      | false => simp only [↓wt, wu, wk0, wk1, wk2, wk3, Nat.reduceAdd, Nat.reduceEqDiff, Nat.reduceLeDiff, Nat.reduceLT, Nat.reduceMul, Int.reduceLE, Int.reduceLT, Int.reduceEq, Int.reduceNe, wk4, laidS, keepS, f1, f2, f3, Bool.false_and, Bool.true_and, Tryd.results20]; exact exp_c
      | true => simp only [↓wt, wu, wk0, wk1, wk2, wk3, Nat.reduceAdd, Nat.reduceEqDiff, Nat.reduceLeDiff, Nat.reduceLT, Nat.reduceMul, Int.reduceLE, Int.reduceLT, Int.reduceEq, Int.reduceNe, wk4, laidS, keepS, f1, f2, f3, Bool.true_and, Tryd.results20]; exact exp_c
end Go.Ab
