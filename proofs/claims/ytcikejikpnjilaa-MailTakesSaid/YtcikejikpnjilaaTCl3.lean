/- Claims: may it be a note; is it there; does it tell a claim. Claims: may it be a message. Mail: what the bytes of a message say (plain laws). -/
import Derived.Test.YtcikejikpnjilaaTCl2
set_option linter.unusedSimpArgs false
set_option linter.unusedVariables false
set_option linter.constructorNameAsVariable false
set_option maxRecDepth 100000
namespace Go.Ab
open Go Go.Proofs Go.RowKit

theorem arg_from {M : Mem} {ids : List Nat} {c : Conf} {k : Int} : VOkA M (.g [.c (.int .i64 c.n), .c (.int .i64 c.q), .c (.int .i64 c.r), .c (.int .i64 c.p), .c (.int .i64 c.k), .c (.int .i64 c.c), .c (.int .i64 k)]) ∧ (∀ i ∈ idsA (.g [.c (.int .i64 c.n), .c (.int .i64 c.q), .c (.int .i64 c.r), .c (.int .i64 c.p), .c (.int .i64 c.k), .c (.int .i64 c.c), .c (.int .i64 k)]), i ∈ ids) ∧ Weak (viewA M (.g [.c (.int .i64 c.n), .c (.int .i64 c.q), .c (.int .i64 c.r), .c (.int .i64 c.p), .c (.int .i64 c.k), .c (.int .i64 c.c), .c (.int .i64 k)])) (FromV c k) ∧ Under 0 (FromV c k) :=
  arg_pure ⟨argC_c, argC_c, argC_c, argC_c, argC_c, argC_c, argC_c, trivial⟩
theorem arg_req {M : Mem} {ids : List Nat} {t w a : Int} : VOkA M (.g [.c (.int .i64 t), .c (.int .i64 w), .c (.int .i64 a)]) ∧ (∀ i ∈ idsA (.g [.c (.int .i64 t), .c (.int .i64 w), .c (.int .i64 a)]), i ∈ ids) ∧ Weak (viewA M (.g [.c (.int .i64 t), .c (.int .i64 w), .c (.int .i64 a)])) (ReqV t w a) ∧ Under 0 (ReqV t w a) :=
  arg_pure ⟨argC_c, argC_c, argC_c, trivial⟩
theorem arg_look {M : Mem} {ids : List Nat} {y p : Int} : VOkA M (.g [.c (.int .i64 y), .c (.int .i64 p)]) ∧ (∀ i ∈ idsA (.g [.c (.int .i64 y), .c (.int .i64 p)]), i ∈ ids) ∧ Weak (viewA M (.g [.c (.int .i64 y), .c (.int .i64 p)])) (LookV (y, p)) ∧ Under 0 (LookV (y, p)) :=
  arg_pure ⟨argC_c, argC_c, trivial⟩
theorem arg_noteR {M : Mem} {ids : List Nat} {a b c d e f g : Int} : VOkA M (.g [.c (.int .i64 a), .c (.int .i64 b), .c (.int .i64 c), .c (.int .i64 d), .c (.int .i64 e), .c (.int .i64 f), .c (.int .i64 g)]) ∧ (∀ i ∈ idsA (.g [.c (.int .i64 a), .c (.int .i64 b), .c (.int .i64 c), .c (.int .i64 d), .c (.int .i64 e), .c (.int .i64 f), .c (.int .i64 g)]), i ∈ ids) ∧ Weak (viewA M (.g [.c (.int .i64 a), .c (.int .i64 b), .c (.int .i64 c), .c (.int .i64 d), .c (.int .i64 e), .c (.int .i64 f), .c (.int .i64 g)])) (NoteV ⟨a, b, c, d, e, f, g⟩) ∧ Under 0 (NoteV ⟨a, b, c, d, e, f, g⟩) :=
  arg_pure ⟨argC_c, argC_c, argC_c, argC_c, argC_c, argC_c, argC_c, trivial⟩
theorem note_call (c : Conf) (who : Int) (n : NoteD) : PCall Try.prog 38 [FromV c who, NoteV n] (.c (.bool (decide (NoteOk c who n)))) := by
  refine pcall_body tabOk Try.func38 rfl rfl (by rw [Try.ntmps38]; simp) ?_
  simp only [Try.ntmps38, FromV, NoteV]
  simp only [↓wt, wu, wk0, wk1, wk2, wk3, Nat.reduceAdd, Nat.reduceEqDiff, Nat.reduceLeDiff, Nat.reduceLT, Nat.reduceMul, Int.reduceLE, Int.reduceLT, Int.reduceEq, Int.reduceNe, wk4, laidS, keepS]
  repeat' (first | (refine r_casesD (fun hp hb => ?_) (fun hp hb => ?_) <;> simp only [↓wt, wu, wk0, wk1, wk2, wk3, Nat.reduceAdd, Nat.reduceEqDiff, Nat.reduceLeDiff, Nat.reduceLT, Nat.reduceMul, Int.reduceLE, Int.reduceLT, Int.reduceEq, Int.reduceNe, wk4, laidS, keepS, Try.results38, hb]) | (refine r_casesN (fun hp hb => ?_) (fun hp hb => ?_) <;> simp only [↓wt, wu, wk0, wk1, wk2, wk3, Nat.reduceAdd, Nat.reduceEqDiff, Nat.reduceLeDiff, Nat.reduceLT, Nat.reduceMul, Int.reduceLE, Int.reduceLT, Int.reduceEq, Int.reduceNe, wk4, laidS, keepS, Try.results38, hb]) | (refine r_casesM (fun hp hb => ?_) (fun hp hb => ?_) <;> simp only [↓wt, wu, wk0, wk1, wk2, wk3, Nat.reduceAdd, Nat.reduceEqDiff, Nat.reduceLeDiff, Nat.reduceLT, Nat.reduceMul, Int.reduceLE, Int.reduceLT, Int.reduceEq, Int.reduceNe, wk4, laidS, keepS, Try.results38, hb]) | (refine r_casesB (fun hp hb => ?_) (fun hp hb => ?_) <;> simp only [↓wt, wu, wk0, wk1, wk2, wk3, Nat.reduceAdd, Nat.reduceEqDiff, Nat.reduceLeDiff, Nat.reduceLT, Nat.reduceMul, Int.reduceLE, Int.reduceLT, Int.reduceEq, Int.reduceNe, wk4, laidS, keepS, Try.results38, hb]) | (refine r_gcasesD (fun hp hb => ?_) (fun hp hb => ?_) <;> simp only [↓wt, wu, wk0, wk1, wk2, wk3, Nat.reduceAdd, Nat.reduceEqDiff, Nat.reduceLeDiff, Nat.reduceLT, Nat.reduceMul, Int.reduceLE, Int.reduceLT, Int.reduceEq, Int.reduceNe, wk4, laidS, keepS, Try.results38, hb]) | (refine r_gcasesN (fun hp hb => ?_) (fun hp hb => ?_) <;> simp only [↓wt, wu, wk0, wk1, wk2, wk3, Nat.reduceAdd, Nat.reduceEqDiff, Nat.reduceLeDiff, Nat.reduceLT, Nat.reduceMul, Int.reduceLE, Int.reduceLT, Int.reduceEq, Int.reduceNe, wk4, laidS, keepS, Try.results38, hb]) | (refine r_gcasesM (fun hp hb => ?_) (fun hp hb => ?_) <;> simp only [↓wt, wu, wk0, wk1, wk2, wk3, Nat.reduceAdd, Nat.reduceEqDiff, Nat.reduceLeDiff, Nat.reduceLT, Nat.reduceMul, Int.reduceLE, Int.reduceLT, Int.reduceEq, Int.reduceNe, wk4, laidS, keepS, Try.results38, hb]) | (refine r_gcasesB (fun hp hb => ?_) (fun hp hb => ?_) <;> simp only [↓wt, wu, wk0, wk1, wk2, wk3, Nat.reduceAdd, Nat.reduceEqDiff, Nat.reduceLeDiff, Nat.reduceLT, Nat.reduceMul, Int.reduceLE, Int.reduceLT, Int.reduceEq, Int.reduceNe, wk4, laidS, keepS, Try.results38, hb]) | ((with_reducible refine And.intro ?_ ?_); omega) | fail)
  · refine icall_drop [] (head_call c who n.t n.w n.a) ⟨arg_from, arg_req, trivial⟩ (.c _) ?_
    simp only [↓wt, wu, wk0, wk1, wk2, wk3, Nat.reduceAdd, Nat.reduceEqDiff, Nat.reduceLeDiff, Nat.reduceLT, Nat.reduceMul, Int.reduceLE, Int.reduceLT, Int.reduceEq, Int.reduceNe, wk4, laidS, keepS]
    repeat' (first | (refine r_casesD (fun hp hb => ?_) (fun hp hb => ?_) <;> simp only [↓wt, wu, wk0, wk1, wk2, wk3, Nat.reduceAdd, Nat.reduceEqDiff, Nat.reduceLeDiff, Nat.reduceLT, Nat.reduceMul, Int.reduceLE, Int.reduceLT, Int.reduceEq, Int.reduceNe, wk4, laidS, keepS, Try.results38, hb]) | (refine r_casesN (fun hp hb => ?_) (fun hp hb => ?_) <;> simp only [↓wt, wu, wk0, wk1, wk2, wk3, Nat.reduceAdd, Nat.reduceEqDiff, Nat.reduceLeDiff, Nat.reduceLT, Nat.reduceMul, Int.reduceLE, Int.reduceLT, Int.reduceEq, Int.reduceNe, wk4, laidS, keepS, Try.results38, hb]) | (refine r_casesM (fun hp hb => ?_) (fun hp hb => ?_) <;> simp only [↓wt, wu, wk0, wk1, wk2, wk3, Nat.reduceAdd, Nat.reduceEqDiff, Nat.reduceLeDiff, Nat.reduceLT, Nat.reduceMul, Int.reduceLE, Int.reduceLT, Int.reduceEq, Int.reduceNe, wk4, laidS, keepS, Try.results38, hb]) | (refine r_casesB (fun hp hb => ?_) (fun hp hb => ?_) <;> simp only [↓wt, wu, wk0, wk1, wk2, wk3, Nat.reduceAdd, Nat.reduceEqDiff, Nat.reduceLeDiff, Nat.reduceLT, Nat.reduceMul, Int.reduceLE, Int.reduceLT, Int.reduceEq, Int.reduceNe, wk4, laidS, keepS, Try.results38, hb]) | (refine r_gcasesD (fun hp hb => ?_) (fun hp hb => ?_) <;> simp only [↓wt, wu, wk0, wk1, wk2, wk3, Nat.reduceAdd, Nat.reduceEqDiff, Nat.reduceLeDiff, Nat.reduceLT, Nat.reduceMul, Int.reduceLE, Int.reduceLT, Int.reduceEq, Int.reduceNe, wk4, laidS, keepS, Try.results38, hb]) | (refine r_gcasesN (fun hp hb => ?_) (fun hp hb => ?_) <;> simp only [↓wt, wu, wk0, wk1, wk2, wk3, Nat.reduceAdd, Nat.reduceEqDiff, Nat.reduceLeDiff, Nat.reduceLT, Nat.reduceMul, Int.reduceLE, Int.reduceLT, Int.reduceEq, Int.reduceNe, wk4, laidS, keepS, Try.results38, hb]) | (refine r_gcasesM (fun hp hb => ?_) (fun hp hb => ?_) <;> simp only [↓wt, wu, wk0, wk1, wk2, wk3, Nat.reduceAdd, Nat.reduceEqDiff, Nat.reduceLeDiff, Nat.reduceLT, Nat.reduceMul, Int.reduceLE, Int.reduceLT, Int.reduceEq, Int.reduceNe, wk4, laidS, keepS, Try.results38, hb]) | (refine r_gcasesB (fun hp hb => ?_) (fun hp hb => ?_) <;> simp only [↓wt, wu, wk0, wk1, wk2, wk3, Nat.reduceAdd, Nat.reduceEqDiff, Nat.reduceLeDiff, Nat.reduceLT, Nat.reduceMul, Int.reduceLE, Int.reduceLT, Int.reduceEq, Int.reduceNe, wk4, laidS, keepS, Try.results38, hb]) | ((with_reducible refine And.intro ?_ ?_); omega) | fail)
    · refine icall_drop [] (look_call n.y n.p) ⟨arg_look, trivial⟩ (.c _) ?_
      simp only [↓wt, wu, wk0, wk1, wk2, wk3, Nat.reduceAdd, Nat.reduceEqDiff, Nat.reduceLeDiff, Nat.reduceLT, Nat.reduceMul, Int.reduceLE, Int.reduceLT, Int.reduceEq, Int.reduceNe, wk4, laidS, keepS, Try.results38]
      refine exp_bE ⟨fun h => ⟨⟨by omega, by omega⟩, by assumption, ⟨by omega, by omega⟩, h⟩, fun h => h.2.2.2⟩
    all_goals exact exp_bF (p := NoteOk c who n) fun h => by obtain ⟨g1, g2, g3, g4⟩ := h; first | omega | contradiction
  all_goals exact exp_bF (p := NoteOk c who n) fun h => by obtain ⟨g1, g2, g3, g4⟩ := h; first | omega | contradiction
theorem rlook_call (y p : Int) : PCall Try.prog 28 [LookV (y, p)] (.c (.bool (decide (LookOk y p)))) := by
  refine pcall_body tabOk Try.func28 rfl rfl (by rw [Try.ntmps28]; simp) ?_
  simp only [Try.ntmps28, LookV]
  simp only [↓wt, wu, wk0, wk1, wk2, wk3, Nat.reduceAdd, Nat.reduceEqDiff, Nat.reduceLeDiff, Nat.reduceLT, Nat.reduceMul, Int.reduceLE, Int.reduceLT, Int.reduceEq, Int.reduceNe, wk4, laidS, keepS]
  repeat' (first | (refine r_casesD (fun hp hb => ?_) (fun hp hb => ?_) <;> simp only [↓wt, wu, wk0, wk1, wk2, wk3, Nat.reduceAdd, Nat.reduceEqDiff, Nat.reduceLeDiff, Nat.reduceLT, Nat.reduceMul, Int.reduceLE, Int.reduceLT, Int.reduceEq, Int.reduceNe, wk4, laidS, keepS, Try.results28, hb]) | (refine r_casesN (fun hp hb => ?_) (fun hp hb => ?_) <;> simp only [↓wt, wu, wk0, wk1, wk2, wk3, Nat.reduceAdd, Nat.reduceEqDiff, Nat.reduceLeDiff, Nat.reduceLT, Nat.reduceMul, Int.reduceLE, Int.reduceLT, Int.reduceEq, Int.reduceNe, wk4, laidS, keepS, Try.results28, hb]) | (refine r_casesM (fun hp hb => ?_) (fun hp hb => ?_) <;> simp only [↓wt, wu, wk0, wk1, wk2, wk3, Nat.reduceAdd, Nat.reduceEqDiff, Nat.reduceLeDiff, Nat.reduceLT, Nat.reduceMul, Int.reduceLE, Int.reduceLT, Int.reduceEq, Int.reduceNe, wk4, laidS, keepS, Try.results28, hb]) | (refine r_casesB (fun hp hb => ?_) (fun hp hb => ?_) <;> simp only [↓wt, wu, wk0, wk1, wk2, wk3, Nat.reduceAdd, Nat.reduceEqDiff, Nat.reduceLeDiff, Nat.reduceLT, Nat.reduceMul, Int.reduceLE, Int.reduceLT, Int.reduceEq, Int.reduceNe, wk4, laidS, keepS, Try.results28, hb]) | (refine r_gcasesD (fun hp hb => ?_) (fun hp hb => ?_) <;> simp only [↓wt, wu, wk0, wk1, wk2, wk3, Nat.reduceAdd, Nat.reduceEqDiff, Nat.reduceLeDiff, Nat.reduceLT, Nat.reduceMul, Int.reduceLE, Int.reduceLT, Int.reduceEq, Int.reduceNe, wk4, laidS, keepS, Try.results28, hb]) | (refine r_gcasesN (fun hp hb => ?_) (fun hp hb => ?_) <;> simp only [↓wt, wu, wk0, wk1, wk2, wk3, Nat.reduceAdd, Nat.reduceEqDiff, Nat.reduceLeDiff, Nat.reduceLT, Nat.reduceMul, Int.reduceLE, Int.reduceLT, Int.reduceEq, Int.reduceNe, wk4, laidS, keepS, Try.results28, hb]) | (refine r_gcasesM (fun hp hb => ?_) (fun hp hb => ?_) <;> simp only [↓wt, wu, wk0, wk1, wk2, wk3, Nat.reduceAdd, Nat.reduceEqDiff, Nat.reduceLeDiff, Nat.reduceLT, Nat.reduceMul, Int.reduceLE, Int.reduceLT, Int.reduceEq, Int.reduceNe, wk4, laidS, keepS, Try.results28, hb]) | (refine r_gcasesB (fun hp hb => ?_) (fun hp hb => ?_) <;> simp only [↓wt, wu, wk0, wk1, wk2, wk3, Nat.reduceAdd, Nat.reduceEqDiff, Nat.reduceLeDiff, Nat.reduceLT, Nat.reduceMul, Int.reduceLE, Int.reduceLT, Int.reduceEq, Int.reduceNe, wk4, laidS, keepS, Try.results28, hb]) | ((with_reducible refine And.intro ?_ ?_); omega) | fail)
  all_goals first | exact exp_bT (p := LookOk y p) (by unfold LookOk; omega) | exact exp_bE (by unfold LookOk; omega) | exact exp_bF (p := LookOk y p) (by unfold LookOk; omega)
/-- Does a note tell a claim? -/
def OnC (c : Conf) (n : NoteD) : Prop := MayC c ∧ 0 < n.a ∧ c.r ≤ n.k
instance (c : Conf) (n : NoteD) : Decidable (OnC c n) := by unfold OnC; infer_instance
def ThereC (c : Conf) (who : Int) : Prop := MayC c ∧ There c who
instance (c : Conf) (who : Int) : Decidable (ThereC c who) := by unfold ThereC; infer_instance
theorem cthere_call (c : Conf) (who : Int) : PCall Try.prog 33 [ConfA c, .c (.int .i64 who)] (.c (.bool (decide (ThereC c who)))) := by
  refine pcall_body tabOk Try.func33 rfl rfl (by rw [Try.ntmps33]; simp) ?_
  simp only [Try.ntmps33, ConfA]
  simp only [↓wt, wu, wk0, wk1, wk2, wk3, Nat.reduceAdd, Nat.reduceEqDiff, Nat.reduceLeDiff, Nat.reduceLT, Nat.reduceMul, Int.reduceLE, Int.reduceLT, Int.reduceEq, Int.reduceNe, wk4, laidS, keepS]
  refine icall_drop [] (rtmay_call c) ⟨arg_conf', trivial⟩ (.c _) ?_
  simp only [↓wt, wu, wk0, wk1, wk2, wk3, Nat.reduceAdd, Nat.reduceEqDiff, Nat.reduceLeDiff, Nat.reduceLT, Nat.reduceMul, Int.reduceLE, Int.reduceLT, Int.reduceEq, Int.reduceNe, wk4, laidS, keepS]
  repeat' (first | (refine r_casesD (fun hp hb => ?_) (fun hp hb => ?_) <;> simp only [↓wt, wu, wk0, wk1, wk2, wk3, Nat.reduceAdd, Nat.reduceEqDiff, Nat.reduceLeDiff, Nat.reduceLT, Nat.reduceMul, Int.reduceLE, Int.reduceLT, Int.reduceEq, Int.reduceNe, wk4, laidS, keepS, Try.results33, hb]) | (refine r_casesN (fun hp hb => ?_) (fun hp hb => ?_) <;> simp only [↓wt, wu, wk0, wk1, wk2, wk3, Nat.reduceAdd, Nat.reduceEqDiff, Nat.reduceLeDiff, Nat.reduceLT, Nat.reduceMul, Int.reduceLE, Int.reduceLT, Int.reduceEq, Int.reduceNe, wk4, laidS, keepS, Try.results33, hb]) | (refine r_casesM (fun hp hb => ?_) (fun hp hb => ?_) <;> simp only [↓wt, wu, wk0, wk1, wk2, wk3, Nat.reduceAdd, Nat.reduceEqDiff, Nat.reduceLeDiff, Nat.reduceLT, Nat.reduceMul, Int.reduceLE, Int.reduceLT, Int.reduceEq, Int.reduceNe, wk4, laidS, keepS, Try.results33, hb]) | (refine r_casesB (fun hp hb => ?_) (fun hp hb => ?_) <;> simp only [↓wt, wu, wk0, wk1, wk2, wk3, Nat.reduceAdd, Nat.reduceEqDiff, Nat.reduceLeDiff, Nat.reduceLT, Nat.reduceMul, Int.reduceLE, Int.reduceLT, Int.reduceEq, Int.reduceNe, wk4, laidS, keepS, Try.results33, hb]) | (refine r_gcasesD (fun hp hb => ?_) (fun hp hb => ?_) <;> simp only [↓wt, wu, wk0, wk1, wk2, wk3, Nat.reduceAdd, Nat.reduceEqDiff, Nat.reduceLeDiff, Nat.reduceLT, Nat.reduceMul, Int.reduceLE, Int.reduceLT, Int.reduceEq, Int.reduceNe, wk4, laidS, keepS, Try.results33, hb]) | (refine r_gcasesN (fun hp hb => ?_) (fun hp hb => ?_) <;> simp only [↓wt, wu, wk0, wk1, wk2, wk3, Nat.reduceAdd, Nat.reduceEqDiff, Nat.reduceLeDiff, Nat.reduceLT, Nat.reduceMul, Int.reduceLE, Int.reduceLT, Int.reduceEq, Int.reduceNe, wk4, laidS, keepS, Try.results33, hb]) | (refine r_gcasesM (fun hp hb => ?_) (fun hp hb => ?_) <;> simp only [↓wt, wu, wk0, wk1, wk2, wk3, Nat.reduceAdd, Nat.reduceEqDiff, Nat.reduceLeDiff, Nat.reduceLT, Nat.reduceMul, Int.reduceLE, Int.reduceLT, Int.reduceEq, Int.reduceNe, wk4, laidS, keepS, Try.results33, hb]) | (refine r_gcasesB (fun hp hb => ?_) (fun hp hb => ?_) <;> simp only [↓wt, wu, wk0, wk1, wk2, wk3, Nat.reduceAdd, Nat.reduceEqDiff, Nat.reduceLeDiff, Nat.reduceLT, Nat.reduceMul, Int.reduceLE, Int.reduceLT, Int.reduceEq, Int.reduceNe, wk4, laidS, keepS, Try.results33, hb]) | ((with_reducible refine And.intro ?_ ?_); omega) | fail)
  · exact exp_bE ⟨fun h => ⟨by assumption, by unfold There; omega⟩, fun h => h.2.2⟩
  all_goals exact exp_bF (p := ThereC c who) fun h => by obtain ⟨g1, g2⟩ := h; unfold There at g2; first | omega | contradiction
/-- A replica's notes. -/
def MayN (c : Conf) (who : Int) (l : List NoteD) : Prop := ThereC c who ∧ (l.length : Int) = c.n ∧ ∀ k, k < l.length → NoteOk c k (noteAt l k) ∧ (k = who → noteAt l k = note0)
instance (c : Conf) (who : Int) (l : List NoteD) : Decidable (MayN c who l) := by unfold MayN; infer_instance
end Go.Ab

set_option linter.unusedSimpArgs false
set_option linter.unusedVariables false
set_option linter.constructorNameAsVariable false
set_option maxRecDepth 100000
namespace Go.Ab
open Go Go.Proofs Go.RowKit

/-- The first of which something is so. -/
def idxA {α : Type} (p : α → Bool) : List α → Nat → Int
  | [], _ => -1
  | a :: r, k => if p a = true then k else idxA p r (k + 1)
theorem idxA_at {α : Type} {p : α → Bool} {d : α} : ∀ (o : List α) (k n : Nat), k < o.length → (∀ j, j < k → p (o.getD j d) = false) → p (o.getD k d) = true → idxA p o n = ((n + k : Nat) : Int)
  | a :: r, 0, n, _, _, h => by
    have : p a = true := h
    simp [idxA, this]
  | a :: r, k + 1, n, hk, hb, h => by
    have h0 : p a = false := hb 0 (by omega)
    have := idxA_at r k (n + 1) (by simpa using hk) (fun j hj => by have := hb (j + 1) (by omega); simpa using this) (by simpa using h)
    simp only [idxA, h0, this, Bool.false_eq_true, if_false]
    omega
theorem idxA_none {α : Type} {p : α → Bool} {d : α} : ∀ (o : List α) (n : Nat), (∀ j, j < o.length → p (o.getD j d) = false) → idxA p o n = -1
  | [], n, _ => rfl
  | a :: r, n, h => by
    have h0 : p a = false := h 0 (by simp)
    simp only [idxA, h0, Bool.false_eq_true, if_false]
    exact idxA_none (d := d) r (n + 1) fun j hj => by have := h (j + 1) (by simpa using hj); simpa using this
theorem idxA_iff {α : Type} {p : α → Bool} : ∀ (o : List α) (n : Nat), 0 ≤ idxA p o n ↔ o.any p = true
  | [], n => by simp [idxA]
  | a :: r, n => by
    unfold idxA
    rw [List.any_cons]
    by_cases h : p a = true
    · rw [if_pos h, h]; simp
    · rw [if_neg h, idxA_iff r (n + 1)]
      have h' : p a = false := by simpa using h
      rw [h', Bool.false_or]
theorem idxA_any {α : Type} {p : α → Bool} (o : List α) (n : Nat) : decide (idxA p o n ≥ 0) = o.any p := by
  rw [Bool.eq_iff_iff, decide_eq_true_iff]; exact idxA_iff o n
def badK (l : Int × Int) : Bool := !decide (LookOk l.1 l.2)
theorem maymf_call (l : Int × Int) : PCall Try.prog 36 [LookV l] (.c (.bool (badK l))) := by
  refine pcall_body tabOk Try.func36 rfl rfl (by rw [Try.ntmps36]; simp) ?_
  simp only [Try.ntmps36, LookV]
  simp only [↓wt, wu, wk0, wk1, wk2, wk3, Nat.reduceAdd, Nat.reduceEqDiff, Nat.reduceLeDiff, Nat.reduceLT, Nat.reduceMul, Int.reduceLE, Int.reduceLT, Int.reduceEq, Int.reduceNe, wk4, laidS, keepS]
  refine icall_drop [] (look_call l.1 l.2) ⟨arg_look, trivial⟩ (.c _) ?_
  simp only [↓wt, wu, wk0, wk1, wk2, wk3, Nat.reduceAdd, Nat.reduceEqDiff, Nat.reduceLeDiff, Nat.reduceLT, Nat.reduceMul, Int.reduceLE, Int.reduceLT, Int.reduceEq, Int.reduceNe, wk4, laidS, keepS, Try.results36]
  exact exp_c
theorem indexK_call (o : List (Int × Int)) (hl : o.length < 1000000000) : PCall Try.prog 55 [.l 2 (o.map LookV), .f 36 []] (.c (.int .i64 (idxA badK o 0))) := by
  refine pcall_body tabOk Try.func55 rfl rfl (by rw [Try.ntmps55]; simp) ?_
  simp only [Try.ntmps55]
  simp only [↓wt, wu, wk0, wk1, wk2, wk3, Nat.reduceAdd, Nat.reduceEqDiff, Nat.reduceLeDiff, Nat.reduceLT, Nat.reduceMul, Int.reduceLE, Int.reduceLT, Int.reduceEq, Int.reduceNe, wk4, laidS, keepS]
  refine loop_ruleC tabOk [0, 1, 7] (fun k : Nat => [(8, .c (.int .i64 k))]) (fun k => k ≤ o.length ∧ ∀ n, n < k → badK (lookAt o n) = false) (fun k => o.length - k) 0 ⟨by omega, fun n h => by omega⟩ ?_ ?_
  · simp only [↓wt, wu, wk0, wk1, wk2, wk3, wkf, Nat.reduceAdd, Nat.reduceEqDiff, Nat.reduceLeDiff, Nat.reduceLT, Nat.reduceMul, Int.reduceLE, Int.reduceLT, Int.reduceEq, Int.reduceNe, wk4, laidS, keepS, underL_K, under_f]
    try trivial
  · rintro k ⟨h1, h2⟩
    simp only [↓wt, wu, wk0, wk1, wk2, wk3, Nat.reduceAdd, Nat.reduceEqDiff, Nat.reduceLeDiff, Nat.reduceLT, Nat.reduceMul, Int.reduceLE, Int.reduceLT, Int.reduceEq, Int.reduceNe, wk4, laidS, keepS]
    repeat' (first | (refine r_casesD (fun hp hb => ?_) (fun hp hb => ?_) <;> simp only [↓wt, wu, wk0, wk1, wk2, wk3, Nat.reduceAdd, Nat.reduceEqDiff, Nat.reduceLeDiff, Nat.reduceLT, Nat.reduceMul, Int.reduceLE, Int.reduceLT, Int.reduceEq, Int.reduceNe, wk4, laidS, keepS, hb]) | (refine r_casesN (fun hp hb => ?_) (fun hp hb => ?_) <;> simp only [↓wt, wu, wk0, wk1, wk2, wk3, Nat.reduceAdd, Nat.reduceEqDiff, Nat.reduceLeDiff, Nat.reduceLT, Nat.reduceMul, Int.reduceLE, Int.reduceLT, Int.reduceEq, Int.reduceNe, wk4, laidS, keepS, hb]) | (refine r_casesM (fun hp hb => ?_) (fun hp hb => ?_) <;> simp only [↓wt, wu, wk0, wk1, wk2, wk3, Nat.reduceAdd, Nat.reduceEqDiff, Nat.reduceLeDiff, Nat.reduceLT, Nat.reduceMul, Int.reduceLE, Int.reduceLT, Int.reduceEq, Int.reduceNe, wk4, laidS, keepS, hb]) | (refine r_casesB (fun hp hb => ?_) (fun hp hb => ?_) <;> simp only [↓wt, wu, wk0, wk1, wk2, wk3, Nat.reduceAdd, Nat.reduceEqDiff, Nat.reduceLeDiff, Nat.reduceLT, Nat.reduceMul, Int.reduceLE, Int.reduceLT, Int.reduceEq, Int.reduceNe, wk4, laidS, keepS, hb]) | (refine r_gcasesD (fun hp hb => ?_) (fun hp hb => ?_) <;> simp only [↓wt, wu, wk0, wk1, wk2, wk3, Nat.reduceAdd, Nat.reduceEqDiff, Nat.reduceLeDiff, Nat.reduceLT, Nat.reduceMul, Int.reduceLE, Int.reduceLT, Int.reduceEq, Int.reduceNe, wk4, laidS, keepS, hb]) | (refine r_gcasesN (fun hp hb => ?_) (fun hp hb => ?_) <;> simp only [↓wt, wu, wk0, wk1, wk2, wk3, Nat.reduceAdd, Nat.reduceEqDiff, Nat.reduceLeDiff, Nat.reduceLT, Nat.reduceMul, Int.reduceLE, Int.reduceLT, Int.reduceEq, Int.reduceNe, wk4, laidS, keepS, hb]) | (refine r_gcasesM (fun hp hb => ?_) (fun hp hb => ?_) <;> simp only [↓wt, wu, wk0, wk1, wk2, wk3, Nat.reduceAdd, Nat.reduceEqDiff, Nat.reduceLeDiff, Nat.reduceLT, Nat.reduceMul, Int.reduceLE, Int.reduceLT, Int.reduceEq, Int.reduceNe, wk4, laidS, keepS, hb]) | (refine r_gcasesB (fun hp hb => ?_) (fun hp hb => ?_) <;> simp only [↓wt, wu, wk0, wk1, wk2, wk3, Nat.reduceAdd, Nat.reduceEqDiff, Nat.reduceLeDiff, Nat.reduceLT, Nat.reduceMul, Int.reduceLE, Int.reduceLT, Int.reduceEq, Int.reduceNe, wk4, laidS, keepS, hb]) | ((with_reducible refine And.intro ?_ ?_); omega) | fail)
    · have hkl : k < o.length := by omega
      have e1 := wi_succ (k := k) (by omega)
      simp only [↓wt, wu, wk0, wk1, wk2, wk3, Nat.reduceAdd, Nat.reduceEqDiff, Nat.reduceLeDiff, Nat.reduceLT, Nat.reduceMul, Int.reduceLE, Int.reduceLT, Int.reduceEq, Int.reduceNe, wk4, laidS, keepS, elem_K, LookV_eq, r_callV]
      repeat (refine And.intro (by omega) ?_)
      refine icall_drop [] (maymf_call (lookAt o k)) ⟨arg_look, trivial⟩ (.c _) ?_
      simp only [↓wt, wu, wk0, wk1, wk2, wk3, Nat.reduceAdd, Nat.reduceEqDiff, Nat.reduceLeDiff, Nat.reduceLT, Nat.reduceMul, Int.reduceLE, Int.reduceLT, Int.reduceEq, Int.reduceNe, wk4, laidS, keepS]
      cases f1 : badK (lookAt o k) with
      | true =>
        simp only [↓wt, wu, wk0, wk1, wk2, wk3, Nat.reduceAdd, Nat.reduceEqDiff, Nat.reduceLeDiff, Nat.reduceLT, Nat.reduceMul, Int.reduceLE, Int.reduceLT, Int.reduceEq, Int.reduceNe, wk4, laidS, keepS, f1, Try.results55]
        rw [idxA_at (d := (0, 0)) o k 0 (by omega) h2 f1, Nat.zero_add]
        exact exp_c
      | false =>
        simp only [↓wt, wu, wk0, wk1, wk2, wk3, Nat.reduceAdd, Nat.reduceEqDiff, Nat.reduceLeDiff, Nat.reduceLT, Nat.reduceMul, Int.reduceLE, Int.reduceLT, Int.reduceEq, Int.reduceNe, wk4, laidS, keepS, f1, e1]
        refine ⟨k + 1, ⟨by omega, fun n hn => ?_⟩, by omega, ?_⟩
        · rcases Nat.lt_or_ge n k with h | h
          · exact h2 n h
          · have : n = k := by omega
            subst this; exact f1
        · simp only [↓wt, wu, wk0, wk1, wk2, wk3, wkf, Nat.reduceAdd, Nat.reduceEqDiff, Nat.reduceLeDiff, Nat.reduceLT, Nat.reduceMul, Int.reduceLE, Int.reduceLT, Int.reduceEq, Int.reduceNe, wk4, laidS, keepS, e1, underL_K, under_f]
          try trivial
    · simp only [↓wt, wu, wk0, wk1, wk2, wk3, Nat.reduceAdd, Nat.reduceEqDiff, Nat.reduceLeDiff, Nat.reduceLT, Nat.reduceMul, Int.reduceLE, Int.reduceLT, Int.reduceEq, Int.reduceNe, wk4, laidS, keepS, Try.results55]
      rw [idxA_none (d := (0, 0)) o 0 fun j hj => h2 j (by omega)]
      exact exp_c
theorem containsK_call (o : List (Int × Int)) (hl : o.length < 1000000000) : PCall Try.prog 35 [.l 2 (o.map LookV), .f 36 []] (.c (.bool (o.any badK))) := by
  refine pcall_body tabOk Try.func35 rfl rfl (by rw [Try.ntmps35]; simp) ?_
  simp only [Try.ntmps35]
  simp only [↓wt, wu, wk0, wk1, wk2, wk3, Nat.reduceAdd, Nat.reduceEqDiff, Nat.reduceLeDiff, Nat.reduceLT, Nat.reduceMul, Int.reduceLE, Int.reduceLT, Int.reduceEq, Int.reduceNe, wk4, laidS, keepS]
  refine icall_drop [] (indexK_call o hl) ⟨arg_l (pureK _), arg_f, trivial⟩ (.c _) ?_
  simp only [↓wt, wu, wk0, wk1, wk2, wk3, Nat.reduceAdd, Nat.reduceEqDiff, Nat.reduceLeDiff, Nat.reduceLT, Nat.reduceMul, Int.reduceLE, Int.reduceLT, Int.reduceEq, Int.reduceNe, wk4, laidS, keepS, idxA_any, Try.results35]
  exact exp_c
/-- A message that may be. -/
def MayM (c : Conf) (m : MailD) : Prop :=
  ThereC c m.f ∧ There c m.o ∧ m.f ≠ m.o ∧ 1 ≤ m.ck ∧ RightB c m.r ∧ (m.e.length : Int) = c.n ∧ lookAt m.e m.f.toNat = (0, 0) ∧ (∀ k, k < m.e.length → LookOk (lookAt m.e k).1 (lookAt m.e k).2) ∧ NoteOk c m.f m.note
noncomputable instance (c : Conf) (m : MailD) : Decidable (MayM c m) := Classical.propDecidable _
theorem any_badK {e : List (Int × Int)} : e.any badK = true ↔ ¬ ∀ k, k < e.length → LookOk (lookAt e k).1 (lookAt e k).2 := by
  rw [List.any_eq_true]
  constructor
  · rintro ⟨x, hx, hb⟩ h
    obtain ⟨k, hk, rfl⟩ := List.mem_iff_getElem.1 hx
    have := h k hk
    rw [lookAt, List.getD_eq_getElem?_getD, List.getElem?_eq_getElem hk] at this
    simp only [badK, Bool.not_eq_true', decide_eq_false_iff_not] at hb
    exact hb this
  · intro h
    refine Classical.byContradiction fun hn => h fun k hk => Classical.byContradiction fun hb => hn ⟨e[k], List.getElem_mem hk, ?_⟩
    rw [lookAt, List.getD_eq_getElem?_getD, List.getElem?_eq_getElem hk] at hb
    simp only [badK, Bool.not_eq_true', decide_eq_false_iff_not]
    exact hb
set_option maxHeartbeats 4000000 in
theorem maym_call (c : Conf) (m : MailD) (hr : Lens m.r) (hl : m.e.length < 1000000000) : PCall Try.prog 18 [ConfA c, MailV m] (.c (.bool (decide (MayM c m)))) := by
  refine pcall_body tabOk Try.func18 rfl rfl (by rw [Try.ntmps18]; simp) ?_
  simp only [Try.ntmps18, ConfA, MailV]
  simp only [↓wt, wu, wk0, wk1, wk2, wk3, Nat.reduceAdd, Nat.reduceEqDiff, Nat.reduceLeDiff, Nat.reduceLT, Nat.reduceMul, Int.reduceLE, Int.reduceLT, Int.reduceEq, Int.reduceNe, wk4, laidS, keepS]
  refine icall_drop [] (cthere_call c m.f) ⟨arg_conf', arg_c, trivial⟩ (.c _) ?_
  simp only [↓wt, wu, wk0, wk1, wk2, wk3, Nat.reduceAdd, Nat.reduceEqDiff, Nat.reduceLeDiff, Nat.reduceLT, Nat.reduceMul, Int.reduceLE, Int.reduceLT, Int.reduceEq, Int.reduceNe, wk4, laidS, keepS]
  refine r_gcasesN (fun h1 hb => ?_) (fun h1 hb => ?_) <;> simp only [↓wt, wu, wk0, wk1, wk2, wk3, Nat.reduceAdd, Nat.reduceEqDiff, Nat.reduceLeDiff, Nat.reduceLT, Nat.reduceMul, Int.reduceLE, Int.reduceLT, Int.reduceEq, Int.reduceNe, wk4, laidS, keepS, hb]
  rotate_left
  · simp only [↓wt, wu, wk0, wk1, wk2, wk3, Nat.reduceAdd, Nat.reduceEqDiff, Nat.reduceLeDiff, Nat.reduceLT, Nat.reduceMul, Int.reduceLE, Int.reduceLT, Int.reduceEq, Int.reduceNe, wk4, laidS, keepS, Try.results18]
    exact exp_bF (p := MayM c m) fun h => h1 h.1
  refine icall_drop [] (cthere_call c m.o) ⟨arg_conf', arg_c, trivial⟩ (.c _) ?_
  simp only [↓wt, wu, wk0, wk1, wk2, wk3, Nat.reduceAdd, Nat.reduceEqDiff, Nat.reduceLeDiff, Nat.reduceLT, Nat.reduceMul, Int.reduceLE, Int.reduceLT, Int.reduceEq, Int.reduceNe, wk4, laidS, keepS]
  repeat' (first | (refine r_casesD (fun hp hb => ?_) (fun hp hb => ?_) <;> simp only [↓wt, wu, wk0, wk1, wk2, wk3, Nat.reduceAdd, Nat.reduceEqDiff, Nat.reduceLeDiff, Nat.reduceLT, Nat.reduceMul, Int.reduceLE, Int.reduceLT, Int.reduceEq, Int.reduceNe, wk4, laidS, keepS, Try.results18, hb]) | (refine r_casesN (fun hp hb => ?_) (fun hp hb => ?_) <;> simp only [↓wt, wu, wk0, wk1, wk2, wk3, Nat.reduceAdd, Nat.reduceEqDiff, Nat.reduceLeDiff, Nat.reduceLT, Nat.reduceMul, Int.reduceLE, Int.reduceLT, Int.reduceEq, Int.reduceNe, wk4, laidS, keepS, Try.results18, hb]) | (refine r_casesM (fun hp hb => ?_) (fun hp hb => ?_) <;> simp only [↓wt, wu, wk0, wk1, wk2, wk3, Nat.reduceAdd, Nat.reduceEqDiff, Nat.reduceLeDiff, Nat.reduceLT, Nat.reduceMul, Int.reduceLE, Int.reduceLT, Int.reduceEq, Int.reduceNe, wk4, laidS, keepS, Try.results18, hb]) | (refine r_casesB (fun hp hb => ?_) (fun hp hb => ?_) <;> simp only [↓wt, wu, wk0, wk1, wk2, wk3, Nat.reduceAdd, Nat.reduceEqDiff, Nat.reduceLeDiff, Nat.reduceLT, Nat.reduceMul, Int.reduceLE, Int.reduceLT, Int.reduceEq, Int.reduceNe, wk4, laidS, keepS, Try.results18, hb]) | (refine r_gcasesD (fun hp hb => ?_) (fun hp hb => ?_) <;> simp only [↓wt, wu, wk0, wk1, wk2, wk3, Nat.reduceAdd, Nat.reduceEqDiff, Nat.reduceLeDiff, Nat.reduceLT, Nat.reduceMul, Int.reduceLE, Int.reduceLT, Int.reduceEq, Int.reduceNe, wk4, laidS, keepS, Try.results18, hb]) | (refine r_gcasesN (fun hp hb => ?_) (fun hp hb => ?_) <;> simp only [↓wt, wu, wk0, wk1, wk2, wk3, Nat.reduceAdd, Nat.reduceEqDiff, Nat.reduceLeDiff, Nat.reduceLT, Nat.reduceMul, Int.reduceLE, Int.reduceLT, Int.reduceEq, Int.reduceNe, wk4, laidS, keepS, Try.results18, hb]) | (refine r_gcasesM (fun hp hb => ?_) (fun hp hb => ?_) <;> simp only [↓wt, wu, wk0, wk1, wk2, wk3, Nat.reduceAdd, Nat.reduceEqDiff, Nat.reduceLeDiff, Nat.reduceLT, Nat.reduceMul, Int.reduceLE, Int.reduceLT, Int.reduceEq, Int.reduceNe, wk4, laidS, keepS, Try.results18, hb]) | (refine r_gcasesB (fun hp hb => ?_) (fun hp hb => ?_) <;> simp only [↓wt, wu, wk0, wk1, wk2, wk3, Nat.reduceAdd, Nat.reduceEqDiff, Nat.reduceLeDiff, Nat.reduceLT, Nat.reduceMul, Int.reduceLE, Int.reduceLT, Int.reduceEq, Int.reduceNe, wk4, laidS, keepS, Try.results18, hb]) | ((with_reducible refine And.intro ?_ ?_); omega) | fail)
  all_goals try exact exp_bF (p := MayM c m) fun h => by obtain ⟨g1, g2, g3, g4, g5⟩ := h; first | omega | contradiction | exact absurd (show ThereC c m.o from ⟨h1.1, g2⟩) (by assumption)
  refine icall_drop [] (right_call c m.r hr) ⟨arg_conf', arg_books, trivial⟩ (.c _) ?_
  simp only [↓wt, wu, wk0, wk1, wk2, wk3, Nat.reduceAdd, Nat.reduceEqDiff, Nat.reduceLeDiff, Nat.reduceLT, Nat.reduceMul, Int.reduceLE, Int.reduceLT, Int.reduceEq, Int.reduceNe, wk4, laidS, keepS]
  repeat' (first | (refine r_casesD (fun hp hb => ?_) (fun hp hb => ?_) <;> simp only [↓wt, wu, wk0, wk1, wk2, wk3, Nat.reduceAdd, Nat.reduceEqDiff, Nat.reduceLeDiff, Nat.reduceLT, Nat.reduceMul, Int.reduceLE, Int.reduceLT, Int.reduceEq, Int.reduceNe, wk4, laidS, keepS, Try.results18, hb]) | (refine r_casesN (fun hp hb => ?_) (fun hp hb => ?_) <;> simp only [↓wt, wu, wk0, wk1, wk2, wk3, Nat.reduceAdd, Nat.reduceEqDiff, Nat.reduceLeDiff, Nat.reduceLT, Nat.reduceMul, Int.reduceLE, Int.reduceLT, Int.reduceEq, Int.reduceNe, wk4, laidS, keepS, Try.results18, hb]) | (refine r_casesM (fun hp hb => ?_) (fun hp hb => ?_) <;> simp only [↓wt, wu, wk0, wk1, wk2, wk3, Nat.reduceAdd, Nat.reduceEqDiff, Nat.reduceLeDiff, Nat.reduceLT, Nat.reduceMul, Int.reduceLE, Int.reduceLT, Int.reduceEq, Int.reduceNe, wk4, laidS, keepS, Try.results18, hb]) | (refine r_casesB (fun hp hb => ?_) (fun hp hb => ?_) <;> simp only [↓wt, wu, wk0, wk1, wk2, wk3, Nat.reduceAdd, Nat.reduceEqDiff, Nat.reduceLeDiff, Nat.reduceLT, Nat.reduceMul, Int.reduceLE, Int.reduceLT, Int.reduceEq, Int.reduceNe, wk4, laidS, keepS, Try.results18, hb]) | (refine r_gcasesD (fun hp hb => ?_) (fun hp hb => ?_) <;> simp only [↓wt, wu, wk0, wk1, wk2, wk3, Nat.reduceAdd, Nat.reduceEqDiff, Nat.reduceLeDiff, Nat.reduceLT, Nat.reduceMul, Int.reduceLE, Int.reduceLT, Int.reduceEq, Int.reduceNe, wk4, laidS, keepS, Try.results18, hb]) | (refine r_gcasesN (fun hp hb => ?_) (fun hp hb => ?_) <;> simp only [↓wt, wu, wk0, wk1, wk2, wk3, Nat.reduceAdd, Nat.reduceEqDiff, Nat.reduceLeDiff, Nat.reduceLT, Nat.reduceMul, Int.reduceLE, Int.reduceLT, Int.reduceEq, Int.reduceNe, wk4, laidS, keepS, Try.results18, hb]) | (refine r_gcasesM (fun hp hb => ?_) (fun hp hb => ?_) <;> simp only [↓wt, wu, wk0, wk1, wk2, wk3, Nat.reduceAdd, Nat.reduceEqDiff, Nat.reduceLeDiff, Nat.reduceLT, Nat.reduceMul, Int.reduceLE, Int.reduceLT, Int.reduceEq, Int.reduceNe, wk4, laidS, keepS, Try.results18, hb]) | (refine r_gcasesB (fun hp hb => ?_) (fun hp hb => ?_) <;> simp only [↓wt, wu, wk0, wk1, wk2, wk3, Nat.reduceAdd, Nat.reduceEqDiff, Nat.reduceLeDiff, Nat.reduceLT, Nat.reduceMul, Int.reduceLE, Int.reduceLT, Int.reduceEq, Int.reduceNe, wk4, laidS, keepS, Try.results18, hb]) | ((with_reducible refine And.intro ?_ ?_); omega) | fail)
  all_goals try exact exp_bF (p := MayM c m) fun h => by obtain ⟨g1, g2, g3, g4, g5, g6, g7⟩ := h; first | omega | contradiction
  have hf : 0 ≤ m.f ∧ m.f < c.n := h1.2
  refine ⟨by omega, by omega, ?_⟩
  simp only [↓wt, wu, wk0, wk1, wk2, wk3, Nat.reduceAdd, Nat.reduceEqDiff, Nat.reduceLeDiff, Nat.reduceLT, Nat.reduceMul, Int.reduceLE, Int.reduceLT, Int.reduceEq, Int.reduceNe, wk4, laidS, keepS, elem_K, LookV_eq, look_neq]
  refine ⟨by omega, ?_⟩
  repeat' (first | (refine r_casesD (fun hp hb => ?_) (fun hp hb => ?_) <;> simp only [↓wt, wu, wk0, wk1, wk2, wk3, Nat.reduceAdd, Nat.reduceEqDiff, Nat.reduceLeDiff, Nat.reduceLT, Nat.reduceMul, Int.reduceLE, Int.reduceLT, Int.reduceEq, Int.reduceNe, wk4, laidS, keepS, Try.results18, hb]) | (refine r_casesN (fun hp hb => ?_) (fun hp hb => ?_) <;> simp only [↓wt, wu, wk0, wk1, wk2, wk3, Nat.reduceAdd, Nat.reduceEqDiff, Nat.reduceLeDiff, Nat.reduceLT, Nat.reduceMul, Int.reduceLE, Int.reduceLT, Int.reduceEq, Int.reduceNe, wk4, laidS, keepS, Try.results18, hb]) | (refine r_casesM (fun hp hb => ?_) (fun hp hb => ?_) <;> simp only [↓wt, wu, wk0, wk1, wk2, wk3, Nat.reduceAdd, Nat.reduceEqDiff, Nat.reduceLeDiff, Nat.reduceLT, Nat.reduceMul, Int.reduceLE, Int.reduceLT, Int.reduceEq, Int.reduceNe, wk4, laidS, keepS, Try.results18, hb]) | (refine r_casesB (fun hp hb => ?_) (fun hp hb => ?_) <;> simp only [↓wt, wu, wk0, wk1, wk2, wk3, Nat.reduceAdd, Nat.reduceEqDiff, Nat.reduceLeDiff, Nat.reduceLT, Nat.reduceMul, Int.reduceLE, Int.reduceLT, Int.reduceEq, Int.reduceNe, wk4, laidS, keepS, Try.results18, hb]) | (refine r_gcasesD (fun hp hb => ?_) (fun hp hb => ?_) <;> simp only [↓wt, wu, wk0, wk1, wk2, wk3, Nat.reduceAdd, Nat.reduceEqDiff, Nat.reduceLeDiff, Nat.reduceLT, Nat.reduceMul, Int.reduceLE, Int.reduceLT, Int.reduceEq, Int.reduceNe, wk4, laidS, keepS, Try.results18, hb]) | (refine r_gcasesN (fun hp hb => ?_) (fun hp hb => ?_) <;> simp only [↓wt, wu, wk0, wk1, wk2, wk3, Nat.reduceAdd, Nat.reduceEqDiff, Nat.reduceLeDiff, Nat.reduceLT, Nat.reduceMul, Int.reduceLE, Int.reduceLT, Int.reduceEq, Int.reduceNe, wk4, laidS, keepS, Try.results18, hb]) | (refine r_gcasesM (fun hp hb => ?_) (fun hp hb => ?_) <;> simp only [↓wt, wu, wk0, wk1, wk2, wk3, Nat.reduceAdd, Nat.reduceEqDiff, Nat.reduceLeDiff, Nat.reduceLT, Nat.reduceMul, Int.reduceLE, Int.reduceLT, Int.reduceEq, Int.reduceNe, wk4, laidS, keepS, Try.results18, hb]) | (refine r_gcasesB (fun hp hb => ?_) (fun hp hb => ?_) <;> simp only [↓wt, wu, wk0, wk1, wk2, wk3, Nat.reduceAdd, Nat.reduceEqDiff, Nat.reduceLeDiff, Nat.reduceLT, Nat.reduceMul, Int.reduceLE, Int.reduceLT, Int.reduceEq, Int.reduceNe, wk4, laidS, keepS, Try.results18, hb]) | ((with_reducible refine And.intro ?_ ?_); omega) | fail)
  · rename_i hk _ _ _
    refine icall_drop [] (containsK_call m.e hl) ⟨arg_l (pureK _), arg_f, trivial⟩ (.c _) ?_
    simp only [↓wt, wu, wk0, wk1, wk2, wk3, Nat.reduceAdd, Nat.reduceEqDiff, Nat.reduceLeDiff, Nat.reduceLT, Nat.reduceMul, Int.reduceLE, Int.reduceLT, Int.reduceEq, Int.reduceNe, wk4, laidS, keepS]
    cases f1 : m.e.any badK with
    | true =>
      simp only [↓wt, wu, wk0, wk1, wk2, wk3, Nat.reduceAdd, Nat.reduceEqDiff, Nat.reduceLeDiff, Nat.reduceLT, Nat.reduceMul, Int.reduceLE, Int.reduceLT, Int.reduceEq, Int.reduceNe, wk4, laidS, keepS, f1, Try.results18]
      exact exp_bF (p := MayM c m) fun h => any_badK.1 f1 h.2.2.2.2.2.2.2.1
    | false =>
      simp only [↓wt, wu, wk0, wk1, wk2, wk3, Nat.reduceAdd, Nat.reduceEqDiff, Nat.reduceLeDiff, Nat.reduceLT, Nat.reduceMul, Int.reduceLE, Int.reduceLT, Int.reduceEq, Int.reduceNe, wk4, laidS, keepS, f1]
      refine icall_drop [] (note_call c m.f m.note) ⟨arg_from, arg_noteR, trivial⟩ (.c _) ?_
      simp only [↓wt, wu, wk0, wk1, wk2, wk3, Nat.reduceAdd, Nat.reduceEqDiff, Nat.reduceLeDiff, Nat.reduceLT, Nat.reduceMul, Int.reduceLE, Int.reduceLT, Int.reduceEq, Int.reduceNe, wk4, laidS, keepS, Try.results18]
      have hall : ∀ k, k < m.e.length → LookOk (lookAt m.e k).1 (lookAt m.e k).2 := Classical.byContradiction fun h => by
        rw [any_badK.2 h] at f1; cases f1
      exact exp_bE ⟨fun h => ⟨h1, (show ThereC c m.o by assumption).2, by assumption, by omega, by assumption, by omega, Prod.ext hp.1 hp.2, hall, h⟩, fun h => h.2.2.2.2.2.2.2.2⟩
  · exact exp_bF (p := MayM c m) fun h => by
      have := h.2.2.2.2.2.2.1
      rw [this] at hp
      exact hp ⟨rfl, rfl⟩
end Go.Ab

set_option linter.unusedSimpArgs false
set_option linter.unusedVariables false
set_option linter.constructorNameAsVariable false
set_option maxRecDepth 100000
namespace Go.Ab
open Go Go.Proofs Go.RowKit

abbrev B62 : Nat := 4611686018427387904
/-- A reader: what is left, and whether something went wrong. -/
abbrev RdT : Type := List UInt8 × Bool
noncomputable def rdV (s : RdT) : Int := if s.2 = false ∧ (num B62 s.1).2.2 = true then (num B62 s.1).1 else 0
noncomputable def rdS (s : RdT) : RdT := if s.2 = false ∧ (num B62 s.1).2.2 = true then ((num B62 s.1).2.1, false) else (s.1, true)
theorem rdS_len (s : RdT) : (rdS s).1.length ≤ s.1.length := by
  unfold rdS; split
  · exact tk_len s.1
  · exact Nat.le_refl _
theorem rdS_bad {s : RdT} (h : s.2 = true) : (rdS s).2 = true := by unfold rdS; rw [if_neg (by rw [h]; simp)]
noncomputable def stN : Nat → RdT → RdT
  | 0, s => s
  | n + 1, s => stN n (rdS s)
noncomputable def rdN : Nat → RdT → List Int
  | 0, _ => []
  | n + 1, s => rdV s :: rdN n (rdS s)
theorem stN_len : ∀ n s, (stN n s).1.length ≤ s.1.length
  | 0, _ => Nat.le_refl _
  | n + 1, s => Nat.le_trans (stN_len n _) (rdS_len s)
theorem stN_bad : ∀ n {s : RdT}, s.2 = true → (stN n s).2 = true
  | 0, _, h => h
  | n + 1, s, h => stN_bad n (rdS_bad h)
theorem stN_succ : ∀ n s, stN (n + 1) s = rdS (stN n s)
  | 0, _ => rfl
  | n + 1, s => stN_succ n (rdS s)
theorem rdN_get : ∀ n j s, j < n → (rdN n s).getD j 0 = rdV (stN j s)
  | n + 1, 0, s, _ => rfl
  | n + 1, j + 1, s, h => by
    have := rdN_get n j (rdS s) (by omega)
    simpa [rdN, stN] using this
theorem rd_all : ∀ n b, (manyL (num B62) n b).1.length = n → rdN n (b, false) = (manyL (num B62) n b).1 ∧ stN n (b, false) = ((manyL (num B62) n b).2, false)
  | 0, b, _ => ⟨rfl, rfl⟩
  | n + 1, b, h => by
    simp only [manyL] at h ⊢
    by_cases hk : (num B62 b).2.2 = true
    · rw [if_pos hk] at h ⊢
      have ih := rd_all n (num B62 b).2.1 (by simpa using h)
      have e1 : rdV (b, false) = (num B62 b).1 := by simp [rdV, hk]
      have e2 : rdS (b, false) = ((num B62 b).2.1, false) := by simp [rdS, hk]
      simp only [rdN, stN, e1, e2, ih.1, ih.2, and_self]
    · rw [if_neg hk] at h; simp at h
theorem rd_not : ∀ n b, (manyL (num B62) n b).1.length ≠ n → (stN n (b, false)).2 = true
  | 0, b, h => absurd rfl h
  | n + 1, b, h => by
    simp only [manyL] at h
    by_cases hk : (num B62 b).2.2 = true
    · rw [if_pos hk] at h
      have e2 : rdS (b, false) = ((num B62 b).2.1, false) := by simp [rdS, hk]
      simp only [stN, e2]
      exact rd_not n _ (by simpa using h)
    · have e2 : (rdS (b, false)).2 = true := by simp [rdS, hk]
      exact stN_bad n e2
/-- A message of numbers and rows. -/
def mkL (h : List Int) (r : List RowD) (t : List Int) (n : Nat) : MailD :=
  ⟨h.getD 0 0, h.getD 1 0, h.getD 2 0, r, t.getD 0 0, t.getD 1 0, t.getD 2 0, t.getD 3 0, t.getD 4 0, t.getD 5 0, (List.range n).map fun i => (t.getD (6 + 2 * i) 0, t.getD (7 + 2 * i) 0)⟩
def m00 : MailD := ⟨0, 0, 0, [], 0, 0, 0, 0, 0, 0, []⟩
/-- A message with which bytes begin. -/
noncomputable def mailP (c : Conf) (b : List UInt8) : MailD × List UInt8 × Bool :=
  if (manyL (num B62) 3 b).1.length = 3 ∧ (takeB M63 c (manyL (num B62) 3 b).2).2.2 = true ∧ (manyL (num B62) (6 + 2 * c.n.toNat) (takeB M63 c (manyL (num B62) 3 b).2).2.1).1.length = 6 + 2 * c.n.toNat then
    (mkL (manyL (num B62) 3 b).1 (takeB M63 c (manyL (num B62) 3 b).2).1 (manyL (num B62) (6 + 2 * c.n.toNat) (takeB M63 c (manyL (num B62) 3 b).2).2.1).1 c.n.toNat, (manyL (num B62) (6 + 2 * c.n.toNat) (takeB M63 c (manyL (num B62) 3 b).2).2.1).2, true)
  else (m00, [], false)
noncomputable def mailT (c : Conf) (b : List UInt8) : MailD × Bool := if (mailP c b).2.2 = true ∧ (mailP c b).2.1 = [] ∧ MayM c (mailP c b).1 then ((mailP c b).1, true) else (m00, false)
theorem takeB_n {c : Conf} {b : List UInt8} (h : (takeB M63 c b).2.2 = true) : RightB c (takeB M63 c b).1 ∧ (takeB M63 c b).1.length = c.n.toNat ∧ b = encN (numsB (takeB M63 c b).1) ++ (takeB M63 c b).2.1 := by
  rcases takeB_is (Nat.le_refl M63) (by decide) c b with ⟨_, h1, h2⟩ | ⟨h1, _⟩
  · have := h1.2.1.1
    exact ⟨h1, by omega, h2⟩
  · rw [h] at h1; cases h1
theorem takeB_rest (c : Conf) (b : List UInt8) : (takeB M63 c b).2.1.length ≤ b.length := by
  rcases takeB_is (Nat.le_refl M63) (by decide) c b with ⟨_, h1, h2⟩ | ⟨_, _, h1, _⟩
  · have := congrArg List.length h2
    rw [List.length_append] at this; omega
  · rw [h1]; simp
/-- What the code reads. -/
noncomputable def afterR (c : Conf) (s : RdT) : RdT := ((takeB M63 c s.1).2.1, s.2 || !(takeB M63 c s.1).2.2)
noncomputable def mailX (c : Conf) (b : List UInt8) : MailD :=
  mkL (rdN 3 (b, false)) (takeB M63 c (stN 3 (b, false)).1).1 (rdN (6 + 2 * (takeB M63 c (stN 3 (b, false)).1).1.length) (afterR c (stN 3 (b, false)))) (takeB M63 c (stN 3 (b, false)).1).1.length
noncomputable def mailE (c : Conf) (b : List UInt8) : RdT := stN (6 + 2 * (takeB M63 c (stN 3 (b, false)).1).1.length) (afterR c (stN 3 (b, false)))
theorem mailX_eq (c : Conf) (b : List UInt8) : (if (mailE c b).2 = false ∧ (mailE c b).1 = [] ∧ MayM c (mailX c b) then (mailX c b, true) else (m00, false)) = mailT c b := by
  have bad : (mailE c b).2 = true → (mailP c b).2.2 = false → (if (mailE c b).2 = false ∧ (mailE c b).1 = [] ∧ MayM c (mailX c b) then (mailX c b, true) else (m00, false)) = mailT c b := fun h1 h2 => by
    rw [if_neg (by rw [h1]; simp), mailT, if_neg (by rw [h2]; simp)]
  have nop : ¬ ((manyL (num B62) 3 b).1.length = 3 ∧ (takeB M63 c (manyL (num B62) 3 b).2).2.2 = true ∧ (manyL (num B62) (6 + 2 * c.n.toNat) (takeB M63 c (manyL (num B62) 3 b).2).2.1).1.length = 6 + 2 * c.n.toNat) → (mailP c b).2.2 = false := fun h => by rw [mailP, if_neg h]
  by_cases h3 : (manyL (num B62) 3 b).1.length = 3
  · obtain ⟨e1, e2⟩ := rd_all 3 b h3
    by_cases ho : (takeB M63 c (manyL (num B62) 3 b).2).2.2 = true
    · have hn := (takeB_n ho).2.1
      have e3 : afterR c ((manyL (num B62) 3 b).2, false) = ((takeB M63 c (manyL (num B62) 3 b).2).2.1, false) := by simp only [afterR, ho, Bool.not_true, Bool.or_false]
      by_cases h6 : (manyL (num B62) (6 + 2 * c.n.toNat) (takeB M63 c (manyL (num B62) 3 b).2).2.1).1.length = 6 + 2 * c.n.toNat
      · obtain ⟨e4, e5⟩ := rd_all _ _ h6
        have p1 : mailP c b = (mailX c b, (mailE c b).1, true) := by
          rw [mailP, if_pos ⟨h3, ho, h6⟩, mailX, mailE, e2, e1]
          dsimp only
          rw [e3, hn, e4, e5]
        have p2 : (mailE c b).2 = false := by
          rw [mailE, e2]
          dsimp only
          rw [e3, hn, e5]
        rw [mailT, p1, p2]
        simp only [true_and]
      · refine bad ?_ (nop fun h => h6 h.2.2)
        rw [mailE, e2]
        dsimp only
        rw [e3, hn]
        exact rd_not _ _ h6
    · refine bad ?_ (nop fun h => ho h.2.1)
      rw [mailE, e2]
      refine stN_bad _ ?_
      simp only [afterR, Bool.false_or, Bool.not_eq_true', Bool.not_eq_true] at ho ⊢
      exact ho
  · refine bad ?_ (nop fun h => h3 h.1)
    refine stN_bad _ ?_
    simp only [afterR, rd_not 3 b h3, Bool.true_or]
/-- A message's bytes. -/
def echoL : List (Int × Int) → List Int
  | [] => []
  | l :: r => l.1 :: l.2 :: echoL r
def headL (m : MailD) : List Int := [m.f, m.o, m.ck]
def tailL (m : MailD) : List Int := m.t :: m.w :: m.a :: m.k :: m.y :: m.p :: echoL m.e
def encM (m : MailD) : List UInt8 := encN (headL m) ++ (encN (numsB m.r) ++ encN (tailL m))
theorem echoL_len : ∀ e, (echoL e).length = 2 * e.length
  | [] => rfl
  | l :: r => by simp [echoL, echoL_len r]; omega
theorem echoL_append : ∀ a b, echoL (a ++ b) = echoL a ++ echoL b
  | [], b => rfl
  | l :: a, b => by simp [echoL, echoL_append a b]
theorem echoL_get : ∀ (e : List (Int × Int)) i, i < e.length → (echoL e).getD (2 * i) 0 = (lookAt e i).1 ∧ (echoL e).getD (2 * i + 1) 0 = (lookAt e i).2
  | l :: r, 0, _ => ⟨rfl, rfl⟩
  | l :: r, i + 1, h => by
    have := echoL_get r i (by simpa using h)
    rw [show 2 * (i + 1) = 2 * i + 2 by omega, show 2 * i + 2 + 1 = 2 * i + 1 + 2 by omega]
    simpa [echoL, lookAt] using this
theorem echoL_back (e : List (Int × Int)) {p : List Int} (hp : p.length = 6) : ((List.range e.length).map fun i => ((p ++ echoL e).getD (6 + 2 * i) 0, (p ++ echoL e).getD (7 + 2 * i) 0)) = e := by
  apply List.ext_getElem (by simp)
  intro i h1 h2
  have := echoL_get e i h2
  simp only [List.getElem_map, List.getElem_range]
  have e1 : (p ++ echoL e).getD (6 + 2 * i) 0 = (echoL e).getD (2 * i) 0 := by
    simp only [List.getD_eq_getElem?_getD]
    rw [List.getElem?_append_right (by omega), hp, show 6 + 2 * i - 6 = 2 * i by omega]
  have e2 : (p ++ echoL e).getD (7 + 2 * i) 0 = (echoL e).getD (2 * i + 1) 0 := by
    simp only [List.getD_eq_getElem?_getD]
    rw [List.getElem?_append_right (by omega), hp, show 7 + 2 * i - 6 = 2 * i + 1 by omega]
  rw [e1, e2, this.1, this.2, lookAt, List.getD_eq_getElem?_getD, List.getElem?_eq_getElem h2]
  rfl
theorem mkL_back (m : MailD) {n : Nat} (hn : m.e.length = n) : mkL (headL m) m.r (tailL m) n = m := by
  subst hn
  have := echoL_back m.e (p := [m.t, m.w, m.a, m.k, m.y, m.p]) rfl
  unfold mkL
  show MailD.mk m.f m.o m.ck m.r m.t m.w m.a m.k m.y m.p ((List.range m.e.length).map fun i => (([m.t, m.w, m.a, m.k, m.y, m.p] ++ echoL m.e).getD (6 + 2 * i) 0, ([m.t, m.w, m.a, m.k, m.y, m.p] ++ echoL m.e).getD (7 + 2 * i) 0)) = m
  rw [this]
theorem echoL_mem {e : List (Int × Int)} {v : Int} : v ∈ echoL e → ∃ i, i < e.length ∧ (v = (lookAt e i).1 ∨ v = (lookAt e i).2) := by
  induction e with
  | nil => intro h; simp [echoL] at h
  | cons l r ih =>
    intro h
    simp only [echoL, List.mem_cons] at h
    rcases h with rfl | rfl | h
    · exact ⟨0, by simp, .inl rfl⟩
    · exact ⟨0, by simp, .inr rfl⟩
    · obtain ⟨i, h1, h2⟩ := ih h
      exact ⟨i + 1, by simpa using h1, by simpa [lookAt] using h2⟩
theorem look_range {y p : Int} (h : LookOk y p) : (0 ≤ y ∧ y < 4611686018427387904) ∧ (0 ≤ p ∧ p < 4611686018427387904) := by
  unfold LookOk at h; omega
theorem may_range {c : Conf} {m : MailD} (h : MayM c m) : (∀ v ∈ headL m, 0 ≤ v ∧ v < (B62 : Nat)) ∧ ∀ v ∈ tailL m, 0 ≤ v ∧ v < (B62 : Nat) := by
  obtain ⟨⟨hc, hf⟩, ho, _, h1, hr, he, _, hl, ⟨hk, hh, ha, hy⟩⟩ := h
  have hy := look_range hy
  obtain ⟨c1, c2, c3, _⟩ := hc
  show (∀ v ∈ headL m, 0 ≤ v ∧ v < 4611686018427387904) ∧ ∀ v ∈ tailL m, 0 ≤ v ∧ v < 4611686018427387904
  simp only [MailD.note, There, HeadOk, MaySt] at hf ho hk hh ha hy
  refine ⟨fun v hv => ?_, fun v hv => ?_⟩
  · simp only [headL, List.mem_cons, List.not_mem_nil, or_false] at hv
    rcases hv with rfl | rfl | rfl <;> omega
  · simp only [tailL, List.mem_cons] at hv
    rcases hv with rfl | rfl | rfl | rfl | rfl | rfl | hv
    · omega
    · omega
    · omega
    · omega
    · exact hy.1
    · exact hy.2
    · obtain ⟨i, hi, hv⟩ := echoL_mem hv
      have := look_range (hl i hi)
      rcases hv with rfl | rfl
      · exact this.1
      · exact this.2
theorem mailP_put {c : Conf} {m : MailD} (h : MayM c m) (r : List UInt8) : mailP c (encM m ++ r) = (m, r, true) := by
  obtain ⟨hh, ht⟩ := may_range h
  have hr := h.2.2.2.2.1
  have he := h.2.2.2.2.2.1
  have hn : m.e.length = c.n.toNat := by omega
  have e1 := many_put (B := B62) (by decide) (headL m) (encN (numsB m.r) ++ encN (tailL m) ++ r) hh
  rw [show (headL m).length = 3 from rfl] at e1
  have e2 := books_put (Nat.le_refl M63) (by decide) (r := encN (tailL m) ++ r) hr
  have e3 := many_put (B := B62) (by decide) (tailL m) r ht
  have hl : (tailL m).length = 6 + 2 * c.n.toNat := by simp only [tailL, List.length_cons, echoL_len]; omega
  rw [hl] at e3
  have e0 : encM m ++ r = encN (headL m) ++ (encN (numsB m.r) ++ encN (tailL m) ++ r) := by simp only [encM, List.append_assoc]
  rw [e0, mailP, e1]
  dsimp only
  rw [List.append_assoc, e2]
  dsimp only
  rw [e3]
  dsimp only
  rw [if_pos ⟨rfl, rfl, hl⟩, mkL_back m hn]
theorem mailT_put {c : Conf} {m : MailD} (h : MayM c m) : mailT c (encM m) = (m, true) := by
  have := mailP_put h []
  rw [List.append_nil] at this
  rw [mailT, this, if_pos ⟨rfl, rfl, h⟩]
theorem mailT_of {c : Conf} {b : List UInt8} (h : (mailT c b).2 = true) : MayM c (mailT c b).1 ∧ b = encM (mailT c b).1 := by
  unfold mailT at h ⊢
  split
  · rename_i g
    refine ⟨g.2.2, ?_⟩
    obtain ⟨g1, g2, g3⟩ := g
    unfold mailP at g1 g2 ⊢
    split
    · rename_i k
      rw [if_pos k] at g2
      dsimp only at g2 ⊢
      obtain ⟨k1, k2, k3⟩ := k
      have a1 := many_of (B := B62) (by decide) 3 b
      have a2 := (takeB_n k2).2.2
      have a3 := many_of (B := B62) (by decide) (6 + 2 * c.n.toNat) (takeB M63 c (manyL (num B62) 3 b).2).2.1
      rw [g2, List.append_nil] at a3
      generalize manyL (num B62) (6 + 2 * c.n.toNat) (takeB M63 c (manyL (num B62) 3 b).2).2.1 = T at *
      generalize takeB M63 c (manyL (num B62) 3 b).2 = P at *
      generalize manyL (num B62) 3 b = H at *
      obtain ⟨t, t'⟩ := T
      obtain ⟨p, p', p''⟩ := P
      obtain ⟨hd, h'⟩ := H
      dsimp only at *
      have b1 : headL (mkL hd p t c.n.toNat) = hd := by
        match hd, k1 with
        | [x, y, z], _ => rfl
      have b2 : tailL (mkL hd p t c.n.toNat) = t := by
        have hl : (tailL (mkL hd p t c.n.toNat)).length = t.length := by simp only [tailL, mkL, List.length_cons, echoL_len, List.length_map, List.length_range]; omega
        apply List.ext_getElem hl
        intro i h1 h2
        have q : ∀ j (hj : j < t.length), t.getD j 0 = t[j] := fun j hj => by rw [List.getD_eq_getElem?_getD, List.getElem?_eq_getElem hj]; rfl
        have q' : (tailL (mkL hd p t c.n.toNat))[i] = (tailL (mkL hd p t c.n.toNat)).getD i 0 := by rw [List.getD_eq_getElem?_getD, List.getElem?_eq_getElem h1]; rfl
        rw [q', ← q i h2]
        match i, h2 with
        | 0, _ => rfl
        | 1, _ => rfl
        | 2, _ => rfl
        | 3, _ => rfl
        | 4, _ => rfl
        | 5, _ => rfl
        | i + 6, h2 =>
          show (echoL ((List.range c.n.toNat).map fun i => (t.getD (6 + 2 * i) 0, t.getD (7 + 2 * i) 0))).getD i 0 = t.getD (i + 6) 0
          have hi : i / 2 < c.n.toNat := by omega
          have := echoL_get ((List.range c.n.toNat).map fun i => (t.getD (6 + 2 * i) 0, t.getD (7 + 2 * i) 0)) (i / 2) (by simpa using hi)
          have hg : lookAt ((List.range c.n.toNat).map fun i => (t.getD (6 + 2 * i) 0, t.getD (7 + 2 * i) 0)) (i / 2) = (t.getD (6 + 2 * (i / 2)) 0, t.getD (7 + 2 * (i / 2)) 0) := by
            rw [lookAt, List.getD_eq_getElem?_getD, List.getElem?_eq_getElem (by simpa using hi)]
            simp
          rw [hg] at this
          rcases Nat.mod_two_eq_zero_or_one i with hm | hm
          · rw [show 2 * (i / 2) = i by omega] at this
            rw [this.1, Nat.add_comm]
          · rw [show 2 * (i / 2) + 1 = i by omega] at this
            rw [this.2, show 7 + 2 * (i / 2) = i + 6 by omega]
      show b = encM (mkL hd p t c.n.toNat)
      unfold encM
      rw [b1, b2, ← a3]
      show b = encN hd ++ (encN (numsB p) ++ p')
      rw [← a2]; exact a1
    · rename_i k
      rw [if_neg k] at g1; cases g1
  · rename_i g
    rw [if_neg g] at h; cases h
theorem encM_inj {c : Conf} {a b : MailD} (ha : MayM c a) (hb : MayM c b) : encM a = encM b ↔ a = b := by
  refine ⟨fun h => ?_, fun h => by rw [h]⟩
  have h1 := mailT_put ha
  rw [h, mailT_put hb] at h1
  exact (Prod.mk.inj h1).1.symm
theorem mailT_cut {c : Conf} {a : MailD} {k : Nat} (h : MayM c a) (hk : k < (encM a).length) : mailT c ((encM a).take k) = (m00, false) := by
  by_cases hx : (mailT c ((encM a).take k)).2 = true
  · obtain ⟨g1, g2⟩ := mailT_of hx
    generalize (mailT c ((encM a).take k)).1 = w at g1 g2
    have e1 := mailP_put g1 ((encM a).drop k)
    rw [← g2, List.take_append_drop] at e1
    have e2 := mailP_put h []
    rw [List.append_nil, e1] at e2
    simp only [Prod.mk.injEq] at e2
    have := congrArg List.length e2.2.1
    simp at this
    omega
  · unfold mailT at hx ⊢
    split
    · rename_i g
      rw [if_pos g] at hx
      exact absurd rfl hx
    · rfl
theorem encM_pos (m : MailD) : 0 < (encM m).length := by
  unfold encM headL encN
  have := putL_ne (uNat m.f)
  have h : 0 < (putL (uNat m.f)).length := by
    cases h : putL (uNat m.f) with
    | nil => exact absurd h this
    | cons => simp
  simp only [List.length_append]
  omega
end Go.Ab
