/- Audits: told by any messages: walked. -/
import Derived.Test.YtblnakmeaokemadAd12
import Derived.Test.YtblnakmeaokemadAd8
set_option linter.unusedSimpArgs false
set_option linter.unusedVariables false
set_option linter.constructorNameAsVariable false
set_option maxRecDepth 100000
namespace Go.Ab
open Go Go.Proofs Go.RowKit

def mail0 : MailD := ⟨0, 0, 0, [], 0, 0, 0, 0, 0, 0, []⟩
def mailAt (l : List MailD) (k : Nat) : MailD := l.getD k mail0
theorem MailV_eq {m : MailD} : MailV m = .g [.c (.int .i64 m.f), .c (.int .i64 m.o), .c (.int .i64 m.ck), .l 3 (m.r.map RowV), .c (.int .i64 m.t), .c (.int .i64 m.w), .c (.int .i64 m.a), .c (.int .i64 m.k), .c (.int .i64 m.y), .c (.int .i64 m.p), .l 2 (m.e.map LookV)] := rfl
theorem elem_M {l : List MailD} {i : Nat} {K : AV → Prop} : Elem (l.map MailV) i K = (i < l.length ∧ K (MailV (mailAt l i))) := elem_map _
theorem under_MailV {k : Nat} (r : MailD) : ∀ x ∈ (MailV r).cells, Under k x := fun x hx => by
  simp only [MailV, AV.cells, List.mem_cons, List.not_mem_nil, or_false] at hx
  rcases hx with rfl | rfl | rfl | rfl | rfl | rfl | rfl | rfl | rfl | rfl | rfl <;> first | exact .c _ | (rw [under_l, underL_R]; trivial) | (rw [under_l, underL_K]; trivial)
theorem underL_M {k : Nat} {l : List MailD} : UnderL k (l.map MailV) = True := eq_true (underL_map k under_MailV l)
def LightA (l : List RowD) (m : MailD) : Prop := ShortB l ∧ ShortB m.r ∧ m.e.length ≤ 40
instance (l : List RowD) (m : MailD) : Decidable (LightA l m) := by unfold LightA; infer_instance
theorem light15_call (l : List RowD) (m : MailD) (hw : Wide l) (hm : Wide m.r) : PCall Try.prog 30 [AudV aud0, BooksV l, MailV m] (.c (.bool (decide (LightA l m)))) := by
  refine pcall_body tabOk Try.func30 rfl rfl (by rw [Try.ntmps30]; simp) ?_
  simp only [Try.ntmps30, AudV, aud0, BooksV, MailV]
  simp only [↓wt, wu, wk0, wk1, wk2, wk3, Nat.reduceAdd, Nat.reduceEqDiff, Nat.reduceLeDiff, Nat.reduceLT, Nat.reduceMul, Int.reduceLE, Int.reduceLT, Int.reduceEq, Int.reduceNe, wk4, laidS, keepS]
  refine icall_drop [] (short_call l hw) ⟨arg_books, trivial⟩ (.c _) ?_
  simp only [↓wt, wu, wk0, wk1, wk2, wk3, Nat.reduceAdd, Nat.reduceEqDiff, Nat.reduceLeDiff, Nat.reduceLT, Nat.reduceMul, Int.reduceLE, Int.reduceLT, Int.reduceEq, Int.reduceNe, wk4, laidS, keepS]
  repeat' (first | (refine r_casesD (fun hp hb => ?_) (fun hp hb => ?_) <;> simp only [↓wt, wu, wk0, wk1, wk2, wk3, Nat.reduceAdd, Nat.reduceEqDiff, Nat.reduceLeDiff, Nat.reduceLT, Nat.reduceMul, Int.reduceLE, Int.reduceLT, Int.reduceEq, Int.reduceNe, wk4, laidS, keepS, Try.results30, hb]) | (refine r_casesN (fun hp hb => ?_) (fun hp hb => ?_) <;> simp only [↓wt, wu, wk0, wk1, wk2, wk3, Nat.reduceAdd, Nat.reduceEqDiff, Nat.reduceLeDiff, Nat.reduceLT, Nat.reduceMul, Int.reduceLE, Int.reduceLT, Int.reduceEq, Int.reduceNe, wk4, laidS, keepS, Try.results30, hb]) | (refine r_casesM (fun hp hb => ?_) (fun hp hb => ?_) <;> simp only [↓wt, wu, wk0, wk1, wk2, wk3, Nat.reduceAdd, Nat.reduceEqDiff, Nat.reduceLeDiff, Nat.reduceLT, Nat.reduceMul, Int.reduceLE, Int.reduceLT, Int.reduceEq, Int.reduceNe, wk4, laidS, keepS, Try.results30, hb]) | (refine r_casesB (fun hp hb => ?_) (fun hp hb => ?_) <;> simp only [↓wt, wu, wk0, wk1, wk2, wk3, Nat.reduceAdd, Nat.reduceEqDiff, Nat.reduceLeDiff, Nat.reduceLT, Nat.reduceMul, Int.reduceLE, Int.reduceLT, Int.reduceEq, Int.reduceNe, wk4, laidS, keepS, Try.results30, hb]) | (refine r_gcasesD (fun hp hb => ?_) (fun hp hb => ?_) <;> simp only [↓wt, wu, wk0, wk1, wk2, wk3, Nat.reduceAdd, Nat.reduceEqDiff, Nat.reduceLeDiff, Nat.reduceLT, Nat.reduceMul, Int.reduceLE, Int.reduceLT, Int.reduceEq, Int.reduceNe, wk4, laidS, keepS, Try.results30, hb]) | (refine r_gcasesN (fun hp hb => ?_) (fun hp hb => ?_) <;> simp only [↓wt, wu, wk0, wk1, wk2, wk3, Nat.reduceAdd, Nat.reduceEqDiff, Nat.reduceLeDiff, Nat.reduceLT, Nat.reduceMul, Int.reduceLE, Int.reduceLT, Int.reduceEq, Int.reduceNe, wk4, laidS, keepS, Try.results30, hb]) | (refine r_gcasesM (fun hp hb => ?_) (fun hp hb => ?_) <;> simp only [↓wt, wu, wk0, wk1, wk2, wk3, Nat.reduceAdd, Nat.reduceEqDiff, Nat.reduceLeDiff, Nat.reduceLT, Nat.reduceMul, Int.reduceLE, Int.reduceLT, Int.reduceEq, Int.reduceNe, wk4, laidS, keepS, Try.results30, hb]) | (refine r_gcasesB (fun hp hb => ?_) (fun hp hb => ?_) <;> simp only [↓wt, wu, wk0, wk1, wk2, wk3, Nat.reduceAdd, Nat.reduceEqDiff, Nat.reduceLeDiff, Nat.reduceLT, Nat.reduceMul, Int.reduceLE, Int.reduceLT, Int.reduceEq, Int.reduceNe, wk4, laidS, keepS, Try.results30, hb]) | ((with_reducible refine And.intro ?_ ?_); omega) | fail)
  rotate_left
  · exact exp_bF (p := LightA l m) fun h => hp h.1
  refine icall_drop [] (short_call m.r hm) ⟨arg_books, trivial⟩ (.c _) ?_
  simp only [↓wt, wu, wk0, wk1, wk2, wk3, Nat.reduceAdd, Nat.reduceEqDiff, Nat.reduceLeDiff, Nat.reduceLT, Nat.reduceMul, Int.reduceLE, Int.reduceLT, Int.reduceEq, Int.reduceNe, wk4, laidS, keepS]
  repeat' (first | (refine r_casesD (fun hp hb => ?_) (fun hp hb => ?_) <;> simp only [↓wt, wu, wk0, wk1, wk2, wk3, Nat.reduceAdd, Nat.reduceEqDiff, Nat.reduceLeDiff, Nat.reduceLT, Nat.reduceMul, Int.reduceLE, Int.reduceLT, Int.reduceEq, Int.reduceNe, wk4, laidS, keepS, Try.results30, hb]) | (refine r_casesN (fun hp hb => ?_) (fun hp hb => ?_) <;> simp only [↓wt, wu, wk0, wk1, wk2, wk3, Nat.reduceAdd, Nat.reduceEqDiff, Nat.reduceLeDiff, Nat.reduceLT, Nat.reduceMul, Int.reduceLE, Int.reduceLT, Int.reduceEq, Int.reduceNe, wk4, laidS, keepS, Try.results30, hb]) | (refine r_casesM (fun hp hb => ?_) (fun hp hb => ?_) <;> simp only [↓wt, wu, wk0, wk1, wk2, wk3, Nat.reduceAdd, Nat.reduceEqDiff, Nat.reduceLeDiff, Nat.reduceLT, Nat.reduceMul, Int.reduceLE, Int.reduceLT, Int.reduceEq, Int.reduceNe, wk4, laidS, keepS, Try.results30, hb]) | (refine r_casesB (fun hp hb => ?_) (fun hp hb => ?_) <;> simp only [↓wt, wu, wk0, wk1, wk2, wk3, Nat.reduceAdd, Nat.reduceEqDiff, Nat.reduceLeDiff, Nat.reduceLT, Nat.reduceMul, Int.reduceLE, Int.reduceLT, Int.reduceEq, Int.reduceNe, wk4, laidS, keepS, Try.results30, hb]) | (refine r_gcasesD (fun hp hb => ?_) (fun hp hb => ?_) <;> simp only [↓wt, wu, wk0, wk1, wk2, wk3, Nat.reduceAdd, Nat.reduceEqDiff, Nat.reduceLeDiff, Nat.reduceLT, Nat.reduceMul, Int.reduceLE, Int.reduceLT, Int.reduceEq, Int.reduceNe, wk4, laidS, keepS, Try.results30, hb]) | (refine r_gcasesN (fun hp hb => ?_) (fun hp hb => ?_) <;> simp only [↓wt, wu, wk0, wk1, wk2, wk3, Nat.reduceAdd, Nat.reduceEqDiff, Nat.reduceLeDiff, Nat.reduceLT, Nat.reduceMul, Int.reduceLE, Int.reduceLT, Int.reduceEq, Int.reduceNe, wk4, laidS, keepS, Try.results30, hb]) | (refine r_gcasesM (fun hp hb => ?_) (fun hp hb => ?_) <;> simp only [↓wt, wu, wk0, wk1, wk2, wk3, Nat.reduceAdd, Nat.reduceEqDiff, Nat.reduceLeDiff, Nat.reduceLT, Nat.reduceMul, Int.reduceLE, Int.reduceLT, Int.reduceEq, Int.reduceNe, wk4, laidS, keepS, Try.results30, hb]) | (refine r_gcasesB (fun hp hb => ?_) (fun hp hb => ?_) <;> simp only [↓wt, wu, wk0, wk1, wk2, wk3, Nat.reduceAdd, Nat.reduceEqDiff, Nat.reduceLeDiff, Nat.reduceLT, Nat.reduceMul, Int.reduceLE, Int.reduceLT, Int.reduceEq, Int.reduceNe, wk4, laidS, keepS, Try.results30, hb]) | ((with_reducible refine And.intro ?_ ?_); omega) | fail)
  · exact exp_bE ⟨fun h => ⟨by assumption, by assumption, by omega⟩, fun h => by have := h.2.2; omega⟩
  · exact exp_bF (p := LightA l m) fun h => hp h.2.1
set_option maxHeartbeats 8000000 in
theorem runs_law (c : Conf) (who t : Int) (l : List RowD) (ms : List MailD) (hw : Wide l) (hm : ∀ j, Wide (mailAt ms j).r) (hlen : ms.length < 4611686018427387904) :
    PCall Try.prog 7 [ConfA c, .c (.int .i64 who), .c (.int .i64 t), BooksV l, .l 11 (ms.map MailV)] (.c (.bool true)) := by
  refine pcall_body tabOk Try.func7 rfl rfl (by rw [Try.ntmps7]; simp) ?_
  simp only [Try.ntmps7, ConfA, BooksV]
  simp only [↓wt, wu, wk0, wk1, wk2, wk3, Nat.reduceAdd, Nat.reduceEqDiff, Nat.reduceLeDiff, Nat.reduceLT, Nat.reduceMul, Int.reduceLE, Int.reduceLT, Int.reduceEq, Int.reduceNe, wk4, laidS, keepS]
  refine icall_drop [] awake15_call trivial (.c _) ?_
  simp only [↓wt, wu, wk0, wk1, wk2, wk3, Nat.reduceAdd, Nat.reduceEqDiff, Nat.reduceLeDiff, Nat.reduceLT, Nat.reduceMul, Int.reduceLE, Int.reduceLT, Int.reduceEq, Int.reduceNe, wk4, laidS, keepS]
  refine loop_ruleC tabOk [1, 2, 3, 4, 5] (fun x : Nat × Bool => [(11, .c (.int .i64 (if x.2 = true then 99 else (ms.length : Int)))), (12, .c (.int .i64 x.1))]) (fun x => x.1 ≤ ms.length ∧ (x.2 = false → ∀ j, j < x.1 → LightA l (mailAt ms j))) (fun x => ms.length - x.1) (0, false) ⟨by show 0 ≤ _; omega, fun _ j h => absurd h (by show ¬ j < 0; omega)⟩ ?_ ?_
  · simp only [↓wt, wu, wk0, wk1, wk2, wk3, wkf, Nat.reduceAdd, Nat.reduceEqDiff, Nat.reduceLeDiff, Nat.reduceLT, Nat.reduceMul, Int.reduceLE, Int.reduceLT, Int.reduceEq, Int.reduceNe, wk4, laidS, keepS, underL_M, underL_R]
    try trivial
  · rintro ⟨i, bad⟩ ⟨hi, hG⟩
    dsimp only at hi hG
    have f99 : decide ((99 : Int) ≤ 40) = false := by decide
    have g99 : decide ((99 : Int) > 40) = true := by decide
    cases bad with
    | true =>
      simp only [↓wt, wu, wk0, wk1, wk2, wk3, Nat.reduceAdd, Nat.reduceEqDiff, Nat.reduceLeDiff, Nat.reduceLT, Nat.reduceMul, Int.reduceLE, Int.reduceLT, Int.reduceEq, Int.reduceNe, wk4, laidS, keepS]
      refine r_gcasesD (fun h hb => ?_) (fun h hb => ?_) <;> simp only [↓wt, wu, wk0, wk1, wk2, wk3, Nat.reduceAdd, Nat.reduceEqDiff, Nat.reduceLeDiff, Nat.reduceLT, Nat.reduceMul, Int.reduceLE, Int.reduceLT, Int.reduceEq, Int.reduceNe, wk4, laidS, keepS, hb, f99, g99, Try.results7]
      · exact exp_c
      · exact exp_c
    | false =>
      simp only [↓wt, wu, wk0, wk1, wk2, wk3, Nat.reduceAdd, Nat.reduceEqDiff, Nat.reduceLeDiff, Nat.reduceLT, Nat.reduceMul, Int.reduceLE, Int.reduceLT, Int.reduceEq, Int.reduceNe, wk4, laidS, keepS]
      refine r_gcasesD (fun h hb => ?_) (fun h hb => ?_) <;> simp only [↓wt, wu, wk0, wk1, wk2, wk3, Nat.reduceAdd, Nat.reduceEqDiff, Nat.reduceLeDiff, Nat.reduceLT, Nat.reduceMul, Int.reduceLE, Int.reduceLT, Int.reduceEq, Int.reduceNe, wk4, laidS, keepS, hb]
      · have hil : i < ms.length := by omega
        by_cases h40 : (ms.length : Int) ≤ 40
        rotate_left
        · have f40 : decide ((ms.length : Int) ≤ 40) = false := decide_eq_false h40
          have g40 : decide ((ms.length : Int) > 40) = true := decide_eq_true (by omega)
          simp only [↓wt, wu, wk0, wk1, wk2, wk3, Nat.reduceAdd, Nat.reduceEqDiff, Nat.reduceLeDiff, Nat.reduceLT, Nat.reduceMul, Int.reduceLE, Int.reduceLT, Int.reduceEq, Int.reduceNe, wk4, laidS, keepS, f40, g40, Try.results7]
          exact exp_c
        have f40 : decide ((ms.length : Int) ≤ 40) = true := decide_eq_true h40
        have e3 := wi_succ (k := i) (by omega)
        simp only [↓wt, wu, wk0, wk1, wk2, wk3, Nat.reduceAdd, Nat.reduceEqDiff, Nat.reduceLeDiff, Nat.reduceLT, Nat.reduceMul, Int.reduceLE, Int.reduceLT, Int.reduceEq, Int.reduceNe, wk4, laidS, keepS, f40, elem_M, MailV_eq]
        repeat (refine And.intro (by omega) ?_)
        refine icall_drop [] (light15_call l (mailAt ms i) hw (hm i)) ⟨arg_gL ⟨argC_c, argC_c, argC_nil, argC_nil, argC_nil, argC_c, trivial⟩, arg_books, arg_mail, trivial⟩ (.c _) ?_
        simp only [↓wt, wu, wk0, wk1, wk2, wk3, Nat.reduceAdd, Nat.reduceEqDiff, Nat.reduceLeDiff, Nat.reduceLT, Nat.reduceMul, Int.reduceLE, Int.reduceLT, Int.reduceEq, Int.reduceNe, wk4, laidS, keepS]
        refine r_casesN (fun hl hb2 => ?_) (fun hl hb2 => ?_) <;> simp only [↓wt, wu, wk0, wk1, wk2, wk3, Nat.reduceAdd, Nat.reduceEqDiff, Nat.reduceLeDiff, Nat.reduceLT, Nat.reduceMul, Int.reduceLE, Int.reduceLT, Int.reduceEq, Int.reduceNe, wk4, laidS, keepS, hb2]
        · refine ⟨(i + 1, false), ⟨by show i + 1 ≤ _; omega, fun _ j hj => ?_⟩, by show ms.length - (i + 1) < ms.length - i; omega, ?_⟩
          · rcases Nat.lt_or_ge j i with h | h
            · exact hG rfl j h
            · have : j = i := by have : j < i + 1 := hj; omega
              subst this; exact hl
          · simp only [↓wt, wu, wk0, wk1, wk2, wk3, wkf, Nat.reduceAdd, Nat.reduceEqDiff, Nat.reduceLeDiff, Nat.reduceLT, Nat.reduceMul, Int.reduceLE, Int.reduceLT, Int.reduceEq, Int.reduceNe, wk4, laidS, keepS, e3, underL_M, underL_R]
            try trivial
        · refine ⟨(i + 1, true), ⟨by show i + 1 ≤ _; omega, fun h => by cases h⟩, by show ms.length - (i + 1) < ms.length - i; omega, ?_⟩
          simp only [↓wt, wu, wk0, wk1, wk2, wk3, wkf, Nat.reduceAdd, Nat.reduceEqDiff, Nat.reduceLeDiff, Nat.reduceLT, Nat.reduceMul, Int.reduceLE, Int.reduceLT, Int.reduceEq, Int.reduceNe, wk4, laidS, keepS, e3, underL_M, underL_R]
          try trivial
      · have hil : i = ms.length := by omega
        by_cases h40 : (ms.length : Int) > 40
        · have g40 : decide ((ms.length : Int) > 40) = true := decide_eq_true h40
          simp only [↓wt, wu, wk0, wk1, wk2, wk3, Nat.reduceAdd, Nat.reduceEqDiff, Nat.reduceLeDiff, Nat.reduceLT, Nat.reduceMul, Int.reduceLE, Int.reduceLT, Int.reduceEq, Int.reduceNe, wk4, laidS, keepS, g40, Try.results7]
          exact exp_c
        have g40 : decide ((ms.length : Int) > 40) = false := decide_eq_false h40
        have hall : ∀ j, j < ms.length → LightA l (mailAt ms j) := fun j hj => hG rfl j (by omega)
        simp only [↓wt, wu, wk0, wk1, wk2, wk3, Nat.reduceAdd, Nat.reduceEqDiff, Nat.reduceLeDiff, Nat.reduceLT, Nat.reduceMul, Int.reduceLE, Int.reduceLT, Int.reduceEq, Int.reduceNe, wk4, laidS, keepS, g40]
        refine icall_drop [] (short_call l hw) ⟨arg_books, trivial⟩ (.c _) ?_
        simp only [↓wt, wu, wk0, wk1, wk2, wk3, Nat.reduceAdd, Nat.reduceEqDiff, Nat.reduceLeDiff, Nat.reduceLT, Nat.reduceMul, Int.reduceLE, Int.reduceLT, Int.reduceEq, Int.reduceNe, wk4, laidS, keepS]
        refine r_gcasesN (fun hs hb2 => ?_) (fun hs hb2 => ?_) <;> simp only [↓wt, wu, wk0, wk1, wk2, wk3, Nat.reduceAdd, Nat.reduceEqDiff, Nat.reduceLeDiff, Nat.reduceLT, Nat.reduceMul, Int.reduceLE, Int.reduceLT, Int.reduceEq, Int.reduceNe, wk4, laidS, keepS, hb2]
        rotate_left
        · simp only [↓wt, wu, wk0, wk1, wk2, wk3, Nat.reduceAdd, Nat.reduceEqDiff, Nat.reduceLeDiff, Nat.reduceLT, Nat.reduceMul, Int.reduceLE, Int.reduceLT, Int.reduceEq, Int.reduceNe, wk4, laidS, keepS, Try.results7]
          exact exp_c
        have hrl : Lens l := short_lens hs
        refine icall_drop [] (rright_call c l hrl) ⟨arg_conf', arg_books, trivial⟩ (.c _) ?_
        simp only [↓wt, wu, wk0, wk1, wk2, wk3, Nat.reduceAdd, Nat.reduceEqDiff, Nat.reduceLeDiff, Nat.reduceLT, Nat.reduceMul, Int.reduceLE, Int.reduceLT, Int.reduceEq, Int.reduceNe, wk4, laidS, keepS]
        refine r_casesN (fun hr hb3 => ?_) (fun hr hb3 => ?_) <;> simp only [↓wt, wu, wk0, wk1, wk2, wk3, Nat.reduceAdd, Nat.reduceEqDiff, Nat.reduceLeDiff, Nat.reduceLT, Nat.reduceMul, Int.reduceLE, Int.reduceLT, Int.reduceEq, Int.reduceNe, wk4, laidS, keepS, hb3]
        rotate_left
        · simp only [↓wt, wu, wk0, wk1, wk2, wk3, Nat.reduceAdd, Nat.reduceEqDiff, Nat.reduceLeDiff, Nat.reduceLT, Nat.reduceMul, Int.reduceLE, Int.reduceLT, Int.reduceEq, Int.reduceNe, wk4, laidS, keepS, Try.results7]
          exact exp_c
        refine icall_drop [] (begin_call c who t) ⟨arg_conf', arg_c, arg_c, trivial⟩ okR_aud ?_
        by_cases hbk : (beginA c who t).2 = 0
        rotate_left
        · have h0 : beginA c who t = (aud0, 1) := by
            by_cases h : ThereC c who ∧ 1 ≤ t ∧ t ≤ 1125899906842624
            · exact absurd (by rw [beginA, if_pos h]) hbk
            · rw [beginA, if_neg h]
          rw [h0]
          simp only [↓wt, wu, wk0, wk1, wk2, wk3, Nat.reduceAdd, Nat.reduceEqDiff, Nat.reduceLeDiff, Nat.reduceLT, Nat.reduceMul, Int.reduceLE, Int.reduceLT, Int.reduceEq, Int.reduceNe, wk4, laidS, keepS, AudV]
          have m0 := rnone_call aud0
          rw [show decide (NoneA aud0) = true by decide] at m0
          refine icall_drop [] m0 ⟨arg_aud, trivial⟩ (.c _) ?_
          simp only [↓wt, wu, wk0, wk1, wk2, wk3, Nat.reduceAdd, Nat.reduceEqDiff, Nat.reduceLeDiff, Nat.reduceLT, Nat.reduceMul, Int.reduceLE, Int.reduceLT, Int.reduceEq, Int.reduceNe, wk4, laidS, keepS, Try.results7]
          exact exp_c
        obtain ⟨hth, hR0, hp0, hc0⟩ := begin_run hbk
        rw [hbk]
        generalize (beginA c who t).1 = a0 at hR0 hp0 hc0
        simp only [↓wt, wu, wk0, wk1, wk2, wk3, Nat.reduceAdd, Nat.reduceEqDiff, Nat.reduceLeDiff, Nat.reduceLT, Nat.reduceMul, Int.reduceLE, Int.reduceLT, Int.reduceEq, Int.reduceNe, wk4, laidS, keepS, AudV]
        have h16 : c.n ≤ 16 := by have := hr.1; unfold MayC at this; omega
        refine loop_ruleM tabOk [1, 3, 4, 5, 13] (fun x : Nat × AudD => [(15, .c (.int .i64 (cntB x.2.told))), (16, .c (.int .i64 x.2.p)), (17, .c (.int .i64 x.1))]) (fun x => ⟨[(0, ⟨23, 6, [ConfA c]⟩), (1, ⟨61, 6, [AudV x.2]⟩)], 2⟩) (fun x => x.1 ≤ ms.length ∧ RunA c who x.2) (fun x => ms.length - x.1) (0, a0) ⟨by show 0 ≤ _; omega, hR0⟩ (fun _ => rfl) ?_ ?_
        · simp only [↓wt, wu, wk0, wk1, wk2, wk3, wkf, Nat.reduceAdd, Nat.reduceEqDiff, Nat.reduceLeDiff, Nat.reduceLT, Nat.reduceMul, Int.reduceLE, Int.reduceLT, Int.reduceEq, Int.reduceNe, wk4, laidS, keepS, ConfA, AudV, underL_R, underL_O, underL_I, underL_M, hp0, hc0]
          try trivial
          try exact ⟨rfl, rfl⟩
        · rintro ⟨k, a⟩ ⟨hk, hR⟩
          dsimp only at hk hR
          have hla : LenA a := by obtain ⟨_, ⟨g5, g6, g7⟩, _⟩ := hR; exact ⟨by omega, by omega, by omega⟩
          simp only [↓wt, wu, wk0, wk1, wk2, wk3, Nat.reduceAdd, Nat.reduceEqDiff, Nat.reduceLeDiff, Nat.reduceLT, Nat.reduceMul, Int.reduceLE, Int.reduceLT, Int.reduceEq, Int.reduceNe, wk4, laidS, keepS, ConfA, AudV]
          refine r_casesD (fun hp4 hb4 => ?_) (fun hp4 hb4 => ?_) <;> simp only [↓wt, wu, wk0, wk1, wk2, wk3, Nat.reduceAdd, Nat.reduceEqDiff, Nat.reduceLeDiff, Nat.reduceLT, Nat.reduceMul, Int.reduceLE, Int.reduceLT, Int.reduceEq, Int.reduceNe, wk4, laidS, keepS, hb4]
          rotate_left
          · simp only [↓wt, wu, wk0, wk1, wk2, wk3, Nat.reduceAdd, Nat.reduceEqDiff, Nat.reduceLeDiff, Nat.reduceLT, Nat.reduceMul, Int.reduceLE, Int.reduceLT, Int.reduceEq, Int.reduceNe, wk4, laidS, keepS, Try.results7]
            exact exp_c
          have hkl : k < ms.length := by omega
          have e3 := wi_succ (k := k) (by omega)
          have hlt := hall k hkl
          have hrm : Lens (mailAt ms k).r := short_lens hlt.2.1
          have hem : (mailAt ms k).e.length < 1000000000 := by have := hlt.2.2; omega
          refine draw_rule4 tabOk mixed [(61, 0)] [2, 0, 2, 0, 0, 0, 0, 1, 0, 0, 0, 4, 1, 0] [0, 0, 0, 0, 0, 0, 0, 0, 0, 0, 0, 2, 0, 0] [[], [], [], [], [], [3, 4], [3, 4, 5], [0, 1, 2, 3, 4, 5, 6], [0, 1, 2, 3, 4, 5, 6, 7], [0, 1, 2, 3, 4, 5, 6, 7, 8], [0, 1, 2, 3, 4, 5, 6, 7, 8], [], [0, 1, 2, 3, 4, 5, 6, 7, 8, 9, 11], [0, 1, 2, 3, 4, 5, 6, 7, 8, 9, 10, 11, 12]] (by kernel_rfl) (by kernel_rfl) ?_
          simp only [↓wt, wu, wk0, wk1, wk2, wk3, Nat.reduceAdd, Nat.reduceEqDiff, Nat.reduceLeDiff, Nat.reduceLT, Nat.reduceMul, Int.reduceLE, Int.reduceLT, Int.reduceEq, Int.reduceNe, wk4, laidS, keepS]
          refine d4_readX (fun β => by simp only [↓wt, wu, wk0, wk1, wk2, wk3, Nat.reduceAdd, Nat.reduceEqDiff, Nat.reduceLeDiff, Nat.reduceLT, Nat.reduceMul, Int.reduceLE, Int.reduceLT, Int.reduceEq, Int.reduceNe, wk4, laidS, keepS]; (repeat (first | refine And.intro (by omega) ?_ | refine And.intro (pureB _) ?_ | refine And.intro (pureI _) ?_ | refine And.intro ⟨pureB _, pureB _⟩ ?_ | refine And.intro ⟨pureB _, pureI _⟩ ?_ | refine And.intro ⟨pureI _, pureB _⟩ ?_ | refine And.intro ⟨pureI _, pureI _⟩ ?_)); exact ⟨rfl, rfl⟩) ?_
          simp only [↓wt, wu, wk0, wk1, wk2, wk3, Nat.reduceAdd, Nat.reduceEqDiff, Nat.reduceLeDiff, Nat.reduceLT, Nat.reduceMul, Int.reduceLE, Int.reduceLT, Int.reduceEq, Int.reduceNe, wk4, laidS, keepS]
          refine d4_readX (fun β => by simp only [↓wt, wu, wk0, wk1, wk2, wk3, Nat.reduceAdd, Nat.reduceEqDiff, Nat.reduceLeDiff, Nat.reduceLT, Nat.reduceMul, Int.reduceLE, Int.reduceLT, Int.reduceEq, Int.reduceNe, wk4, laidS, keepS]; (repeat (first | refine And.intro (by omega) ?_ | refine And.intro (pureB _) ?_ | refine And.intro (pureI _) ?_ | refine And.intro ⟨pureB _, pureB _⟩ ?_ | refine And.intro ⟨pureB _, pureI _⟩ ?_ | refine And.intro ⟨pureI _, pureB _⟩ ?_ | refine And.intro ⟨pureI _, pureI _⟩ ?_)); exact ⟨rfl, rfl⟩) ?_
          simp only [↓wt, wu, wk0, wk1, wk2, wk3, Nat.reduceAdd, Nat.reduceEqDiff, Nat.reduceLeDiff, Nat.reduceLT, Nat.reduceMul, Int.reduceLE, Int.reduceLT, Int.reduceEq, Int.reduceNe, wk4, laidS, keepS, elem_M, MailV_eq]
          repeat (refine And.intro (by omega) ?_)
          refine d4_heavyC (r := .t [AudV (tellA c who a (mailAt ms k)).1, .c (.int .i64 (tellA c who a (mailAt ms k)).2)]) (fun β => icall_drop [] (tell_call c who a (mailAt ms k) hla hrm hem) ⟨arg_conf', arg_c, arg_aud, arg_mail, trivial⟩ okR_aud ⟨rfl, rfl⟩) (fun β => by rfl) ?_
          simp only [↓wt, wu, wk0, wk1, wk2, wk3, Nat.reduceAdd, Nat.reduceEqDiff, Nat.reduceLeDiff, Nat.reduceLT, Nat.reduceMul, Int.reduceLE, Int.reduceLT, Int.reduceEq, Int.reduceNe, wk4, laidS, keepS, AudV]
          refine d_heavyX (by simp only [↓wt, wu, wk0, wk1, wk2, wk3, Nat.reduceAdd, Nat.reduceEqDiff, Nat.reduceLeDiff, Nat.reduceLT, Nat.reduceMul, Int.reduceLE, Int.reduceLT, Int.reduceEq, Int.reduceNe, wk4, laidS, keepS, Cell]; (repeat (first | refine And.intro (by omega) ?_ | refine And.intro (pureB _) ?_ | refine And.intro (pureI _) ?_ | refine And.intro ⟨pureB _, pureB _⟩ ?_ | refine And.intro ⟨pureB _, pureI _⟩ ?_ | refine And.intro ⟨pureI _, pureB _⟩ ?_ | refine And.intro ⟨pureI _, pureI _⟩ ?_)); exact ⟨rfl, rfl⟩) ?_
          simp only [↓wt, wu, wk0, wk1, wk2, wk3, Nat.reduceAdd, Nat.reduceEqDiff, Nat.reduceLeDiff, Nat.reduceLT, Nat.reduceMul, Int.reduceLE, Int.reduceLT, Int.reduceEq, Int.reduceNe, wk4, laidS, keepS, Cell]
          by_cases ho : (tellA c who a (mailAt ms k)).2 = 0
          rotate_left
          · have fo : decide ((tellA c who a (mailAt ms k)).2 = 0) = false := decide_eq_false ho
            simp only [↓wt, wu, wk0, wk1, wk2, wk3, Nat.reduceAdd, Nat.reduceEqDiff, Nat.reduceLeDiff, Nat.reduceLT, Nat.reduceMul, Int.reduceLE, Int.reduceLT, Int.reduceEq, Int.reduceNe, wk4, laidS, keepS, fo]
            refine ⟨(k + 1, a), ⟨by show k + 1 ≤ _; omega, hR⟩, by show ms.length - (k + 1) < ms.length - k; omega, ?_⟩
            simp only [↓wt, wu, wk0, wk1, wk2, wk3, wkf, Nat.reduceAdd, Nat.reduceEqDiff, Nat.reduceLeDiff, Nat.reduceLT, Nat.reduceMul, Int.reduceLE, Int.reduceLT, Int.reduceEq, Int.reduceNe, wk4, laidS, keepS, e3, ConfA, AudV, underL_R, underL_O, underL_I, underL_M]
            try trivial
          have fo : decide ((tellA c who a (mailAt ms k)).2 = 0) = true := decide_eq_true ho
          obtain ⟨hRb, hby, hbp, hbc⟩ := tell_run hth hR ho
          simp only [↓wt, wu, wk0, wk1, wk2, wk3, Nat.reduceAdd, Nat.reduceEqDiff, Nat.reduceLeDiff, Nat.reduceLT, Nat.reduceMul, Int.reduceLE, Int.reduceLT, Int.reduceEq, Int.reduceNe, wk4, laidS, keepS, fo]
          generalize (tellA c who a (mailAt ms k)).1 = b at hRb hby hbp hbc ⊢
          have hlb : LenA b := by obtain ⟨_, ⟨g5, g6, g7⟩, _⟩ := hRb; exact ⟨by omega, by omega, by omega⟩
          have m3 := rmaya_call c who b hlb
          rw [decide_eq_true (run_may hth hRb)] at m3
          refine icall_drop [] m3 ⟨arg_conf', arg_c, arg_aud, trivial⟩ (.c _) ?_
          have fl : decide (b.y = a.y ∧ b.p = a.p) = true := decide_eq_true ⟨hby, hbp⟩
          simp only [↓wt, wu, wk0, wk1, wk2, wk3, Nat.reduceAdd, Nat.reduceEqDiff, Nat.reduceLeDiff, Nat.reduceLT, Nat.reduceMul, Int.reduceLE, Int.reduceLT, Int.reduceEq, Int.reduceNe, wk4, laidS, keepS, look_neq, fl]
          have hb1 := hlb.1
          have hcl := cntB_le b.told
          have hcl2 := cntB_le a.told
          have hl1 := hla.1
          have hp12 := hRb.1
          refine loop_ruleC tabOk [1, 3, 4, 5, 13, 15, 16, 17, 18] (fun j : Nat => [(20, .c (.int .i64 (cntB (b.told.take j)))), (21, .c (.int .i64 j))]) (fun j => j ≤ b.told.length) (fun j => b.told.length - j) 0 (by omega) ?_ ?_
          · simp only [↓wt, wu, wk0, wk1, wk2, wk3, wkf, Nat.reduceAdd, Nat.reduceEqDiff, Nat.reduceLeDiff, Nat.reduceLT, Nat.reduceMul, Int.reduceLE, Int.reduceLT, Int.reduceEq, Int.reduceNe, wk4, laidS, keepS, cntB, ConfA, AudV, underL_R, underL_O, underL_I, underL_M]
            try trivial
          · intro j hj
            simp only [↓wt, wu, wk0, wk1, wk2, wk3, Nat.reduceAdd, Nat.reduceEqDiff, Nat.reduceLeDiff, Nat.reduceLT, Nat.reduceMul, Int.reduceLE, Int.reduceLT, Int.reduceEq, Int.reduceNe, wk4, laidS, keepS]
            refine r_casesD (fun hp5 hb5 => ?_) (fun hp5 hb5 => ?_) <;> simp only [↓wt, wu, wk0, wk1, wk2, wk3, Nat.reduceAdd, Nat.reduceEqDiff, Nat.reduceLeDiff, Nat.reduceLT, Nat.reduceMul, Int.reduceLE, Int.reduceLT, Int.reduceEq, Int.reduceNe, wk4, laidS, keepS, hb5]
            · have hjl : j < b.told.length := by omega
              have e6 := wi_succ (k := j) (by omega)
              have hsn := cntB_snoc hjl
              have hct := cntB_le (b.told.take j)
              rw [List.length_take] at hct
              simp only [↓wt, wu, wk0, wk1, wk2, wk3, Nat.reduceAdd, Nat.reduceEqDiff, Nat.reduceLeDiff, Nat.reduceLT, Nat.reduceMul, Int.reduceLE, Int.reduceLT, Int.reduceEq, Int.reduceNe, wk4, laidS, keepS, elem_O]
              repeat (refine And.intro (by omega) ?_)
              cases htj : b.told.getD j false with
              | true =>
                rw [htj] at hsn
                have e7 := wi_succ (k := cntB (b.told.take j)) (by omega)
                simp only [↓wt, wu, wk0, wk1, wk2, wk3, Nat.reduceAdd, Nat.reduceEqDiff, Nat.reduceLeDiff, Nat.reduceLT, Nat.reduceMul, Int.reduceLE, Int.reduceLT, Int.reduceEq, Int.reduceNe, wk4, laidS, keepS, htj, e6, e7]
                refine ⟨j + 1, by omega, by omega, ?_⟩
                rw [hsn]
                simp only [↓wt, wu, wk0, wk1, wk2, wk3, wkf, Nat.reduceAdd, Nat.reduceEqDiff, Nat.reduceLeDiff, Nat.reduceLT, Nat.reduceMul, Int.reduceLE, Int.reduceLT, Int.reduceEq, Int.reduceNe, wk4, laidS, keepS, e6, e7, ConfA, AudV, underL_R, underL_O, underL_I, underL_M]
                try trivial
              | false =>
                rw [htj] at hsn
                simp only [↓wt, wu, wk0, wk1, wk2, wk3, Nat.reduceAdd, Nat.reduceEqDiff, Nat.reduceLeDiff, Nat.reduceLT, Nat.reduceMul, Int.reduceLE, Int.reduceLT, Int.reduceEq, Int.reduceNe, wk4, laidS, keepS, htj, e6]
                refine ⟨j + 1, by omega, by omega, ?_⟩
                rw [hsn]
                simp only [↓wt, wu, wk0, wk1, wk2, wk3, wkf, Nat.reduceAdd, Nat.reduceEqDiff, Nat.reduceLeDiff, Nat.reduceLT, Nat.reduceMul, Int.reduceLE, Int.reduceLT, Int.reduceEq, Int.reduceNe, wk4, laidS, keepS, e6, ConfA, AudV, underL_R, underL_O, underL_I, underL_M, Nat.add_zero]
                try trivial
            · have hjl : j = b.told.length := by omega
              rw [hjl, List.take_length]
              have e5 : IntKind.i64.wrap (c.n - 1) = c.n - 1 := by have := hr.1.1; rw [wrap_i64 (by omega) (by omega)]
              have e8 := wi_succ (k := cntB a.told) (by omega)
              have hpa : a.p = 1 ∨ a.p = 2 := by omega
              by_cases hce : cntB b.told = cntB a.told
              · have u1 : decide ((cntB b.told : Int) = (cntB a.told : Int)) = true := decide_eq_true (by omega)
                simp only [↓wt, wu, wk0, wk1, wk2, wk3, Nat.reduceAdd, Nat.reduceEqDiff, Nat.reduceLeDiff, Nat.reduceLT, Nat.reduceMul, Int.reduceLE, Int.reduceLT, Int.reduceEq, Int.reduceNe, wk4, laidS, keepS, u1, e8]
                rcases hpa with hpa | hpa
                · by_cases hcn : (cntB b.told : Int) = c.n - 1
                  · have q2 : decide (a.p = 2) = false := decide_eq_false (by omega)
                    have q1 : decide (a.p = 1) = true := decide_eq_true (by omega)
                    have qn : decide ((cntB b.told : Int) = c.n - 1) = true := decide_eq_true hcn
                    have re := ends_run hth hRb hr
                    rw [show decide (b.p = 2 ∧ (cntB b.told : Int) = c.n - 1) = false from decide_eq_false fun h => by have := h.1; omega] at re
                    have rn := next_run hth hRb hr
                    rw [show decide (b.p = 1 ∧ (cntB b.told : Int) = c.n - 1) = true from decide_eq_true ⟨by omega, hcn⟩] at rn
                    obtain ⟨rn1, rn2⟩ := rn
                    refine icall_drop [] (ends_call c who b l hlb hrl) ⟨arg_conf', arg_c, arg_aud, arg_books, trivial⟩ ⟨.c _, .c _, .c _, trivial⟩ ?_
                    simp only [↓wt, wu, wk0, wk1, wk2, wk3, Nat.reduceAdd, Nat.reduceEqDiff, Nat.reduceLeDiff, Nat.reduceLT, Nat.reduceMul, Int.reduceLE, Int.reduceLT, Int.reduceEq, Int.reduceNe, wk4, laidS, keepS, re, q2, q1, qn, e5]
                    refine icall_drop [] (next_call c who b l hlb hrl) ⟨arg_conf', arg_c, arg_aud, arg_books, trivial⟩ okR_aud ?_
                    rw [rn1]
                    simp only [↓wt, wu, wk0, wk1, wk2, wk3, Nat.reduceAdd, Nat.reduceEqDiff, Nat.reduceLeDiff, Nat.reduceLT, Nat.reduceMul, Int.reduceLE, Int.reduceLT, Int.reduceEq, Int.reduceNe, wk4, laidS, keepS, AudV, q2, q1, qn, e5]
                    obtain ⟨hRn, hpn, hcn0⟩ := rn2 rn1
                    refine ⟨(k + 1, (nextA c who b l).1), ⟨by show k + 1 ≤ _; omega, hRn⟩, by show ms.length - (k + 1) < ms.length - k; omega, ?_⟩
                    generalize (nextA c who b l).1 = bn at hRn hpn hcn0 ⊢
                    simp only [↓wt, wu, wk0, wk1, wk2, wk3, wkf, Nat.reduceAdd, Nat.reduceEqDiff, Nat.reduceLeDiff, Nat.reduceLT, Nat.reduceMul, Int.reduceLE, Int.reduceLT, Int.reduceEq, Int.reduceNe, wk4, laidS, keepS, e3, hpn, hcn0, ConfA, AudV, underL_R, underL_O, underL_I, underL_M]
                    try trivial
                    try exact ⟨rfl, rfl⟩
                  · have q2 : decide (a.p = 2) = false := decide_eq_false (by omega)
                    have q1 : decide (a.p = 1) = true := decide_eq_true (by omega)
                    have qn : decide ((cntB b.told : Int) = c.n - 1) = false := decide_eq_false hcn
                    have re := ends_run hth hRb hr
                    rw [show decide (b.p = 2 ∧ (cntB b.told : Int) = c.n - 1) = false from decide_eq_false fun h => by have := h.1; omega] at re
                    have rn := next_run hth hRb hr
                    rw [show decide (b.p = 1 ∧ (cntB b.told : Int) = c.n - 1) = false from decide_eq_false fun h => hcn h.2] at rn
                    obtain ⟨rn1, rn2⟩ := rn
                    refine icall_drop [] (ends_call c who b l hlb hrl) ⟨arg_conf', arg_c, arg_aud, arg_books, trivial⟩ ⟨.c _, .c _, .c _, trivial⟩ ?_
                    simp only [↓wt, wu, wk0, wk1, wk2, wk3, Nat.reduceAdd, Nat.reduceEqDiff, Nat.reduceLeDiff, Nat.reduceLT, Nat.reduceMul, Int.reduceLE, Int.reduceLT, Int.reduceEq, Int.reduceNe, wk4, laidS, keepS, re, q2, q1, qn, e5]
                    refine icall_drop [] (next_call c who b l hlb hrl) ⟨arg_conf', arg_c, arg_aud, arg_books, trivial⟩ okR_aud ?_
                    rw [rn1]
                    simp only [↓wt, wu, wk0, wk1, wk2, wk3, Nat.reduceAdd, Nat.reduceEqDiff, Nat.reduceLeDiff, Nat.reduceLT, Nat.reduceMul, Int.reduceLE, Int.reduceLT, Int.reduceEq, Int.reduceNe, wk4, laidS, keepS, AudV, q2, q1, qn, e5]
                    refine ⟨(k + 1, b), ⟨by show k + 1 ≤ _; omega, hRb⟩, by show ms.length - (k + 1) < ms.length - k; omega, ?_⟩
                    simp only [↓wt, wu, wk0, wk1, wk2, wk3, wkf, Nat.reduceAdd, Nat.reduceEqDiff, Nat.reduceLeDiff, Nat.reduceLT, Nat.reduceMul, Int.reduceLE, Int.reduceLT, Int.reduceEq, Int.reduceNe, wk4, laidS, keepS, e3, hbp, ConfA, AudV, underL_R, underL_O, underL_I, underL_M]
                    try trivial
                · by_cases hcn : (cntB b.told : Int) = c.n - 1
                  · have q2 : decide (a.p = 2) = true := decide_eq_true (by omega)
                    have q1 : decide (a.p = 1) = false := decide_eq_false (by omega)
                    have qn : decide ((cntB b.told : Int) = c.n - 1) = true := decide_eq_true hcn
                    have re := ends_run hth hRb hr
                    rw [show decide (b.p = 2 ∧ (cntB b.told : Int) = c.n - 1) = true from decide_eq_true ⟨by omega, hcn⟩] at re
                    have rn := next_run hth hRb hr
                    rw [show decide (b.p = 1 ∧ (cntB b.told : Int) = c.n - 1) = false from decide_eq_false fun h => by have := h.1; omega] at rn
                    obtain ⟨rn1, rn2⟩ := rn
                    refine icall_drop [] (ends_call c who b l hlb hrl) ⟨arg_conf', arg_c, arg_aud, arg_books, trivial⟩ ⟨.c _, .c _, .c _, trivial⟩ ?_
                    simp only [↓wt, wu, wk0, wk1, wk2, wk3, Nat.reduceAdd, Nat.reduceEqDiff, Nat.reduceLeDiff, Nat.reduceLT, Nat.reduceMul, Int.reduceLE, Int.reduceLT, Int.reduceEq, Int.reduceNe, wk4, laidS, keepS, re, q2, q1, qn, e5]
                    refine icall_drop [] (next_call c who b l hlb hrl) ⟨arg_conf', arg_c, arg_aud, arg_books, trivial⟩ okR_aud ?_
                    rw [rn1]
                    simp only [↓wt, wu, wk0, wk1, wk2, wk3, Nat.reduceAdd, Nat.reduceEqDiff, Nat.reduceLeDiff, Nat.reduceLT, Nat.reduceMul, Int.reduceLE, Int.reduceLT, Int.reduceEq, Int.reduceNe, wk4, laidS, keepS, AudV, q2, q1, qn, e5]
                    refine ⟨(k + 1, b), ⟨by show k + 1 ≤ _; omega, hRb⟩, by show ms.length - (k + 1) < ms.length - k; omega, ?_⟩
                    simp only [↓wt, wu, wk0, wk1, wk2, wk3, wkf, Nat.reduceAdd, Nat.reduceEqDiff, Nat.reduceLeDiff, Nat.reduceLT, Nat.reduceMul, Int.reduceLE, Int.reduceLT, Int.reduceEq, Int.reduceNe, wk4, laidS, keepS, e3, hbp, ConfA, AudV, underL_R, underL_O, underL_I, underL_M]
                    try trivial
                  · have q2 : decide (a.p = 2) = true := decide_eq_true (by omega)
                    have q1 : decide (a.p = 1) = false := decide_eq_false (by omega)
                    have qn : decide ((cntB b.told : Int) = c.n - 1) = false := decide_eq_false hcn
                    have re := ends_run hth hRb hr
                    rw [show decide (b.p = 2 ∧ (cntB b.told : Int) = c.n - 1) = false from decide_eq_false fun h => hcn h.2] at re
                    have rn := next_run hth hRb hr
                    rw [show decide (b.p = 1 ∧ (cntB b.told : Int) = c.n - 1) = false from decide_eq_false fun h => by have := h.1; omega] at rn
                    obtain ⟨rn1, rn2⟩ := rn
                    refine icall_drop [] (ends_call c who b l hlb hrl) ⟨arg_conf', arg_c, arg_aud, arg_books, trivial⟩ ⟨.c _, .c _, .c _, trivial⟩ ?_
                    simp only [↓wt, wu, wk0, wk1, wk2, wk3, Nat.reduceAdd, Nat.reduceEqDiff, Nat.reduceLeDiff, Nat.reduceLT, Nat.reduceMul, Int.reduceLE, Int.reduceLT, Int.reduceEq, Int.reduceNe, wk4, laidS, keepS, re, q2, q1, qn, e5]
                    refine icall_drop [] (next_call c who b l hlb hrl) ⟨arg_conf', arg_c, arg_aud, arg_books, trivial⟩ okR_aud ?_
                    rw [rn1]
                    simp only [↓wt, wu, wk0, wk1, wk2, wk3, Nat.reduceAdd, Nat.reduceEqDiff, Nat.reduceLeDiff, Nat.reduceLT, Nat.reduceMul, Int.reduceLE, Int.reduceLT, Int.reduceEq, Int.reduceNe, wk4, laidS, keepS, AudV, q2, q1, qn, e5]
                    refine ⟨(k + 1, b), ⟨by show k + 1 ≤ _; omega, hRb⟩, by show ms.length - (k + 1) < ms.length - k; omega, ?_⟩
                    simp only [↓wt, wu, wk0, wk1, wk2, wk3, wkf, Nat.reduceAdd, Nat.reduceEqDiff, Nat.reduceLeDiff, Nat.reduceLT, Nat.reduceMul, Int.reduceLE, Int.reduceLT, Int.reduceEq, Int.reduceNe, wk4, laidS, keepS, e3, hbp, ConfA, AudV, underL_R, underL_O, underL_I, underL_M]
                    try trivial
              · have u1 : decide ((cntB b.told : Int) = (cntB a.told : Int)) = false := decide_eq_false (by omega)
                have u2 : decide ((cntB b.told : Int) = ((cntB a.told + 1 : Nat) : Int)) = true := decide_eq_true (by omega)
                simp only [↓wt, wu, wk0, wk1, wk2, wk3, Nat.reduceAdd, Nat.reduceEqDiff, Nat.reduceLeDiff, Nat.reduceLT, Nat.reduceMul, Int.reduceLE, Int.reduceLT, Int.reduceEq, Int.reduceNe, wk4, laidS, keepS, u1, u2, e8]
                rcases hpa with hpa | hpa
                · by_cases hcn : (cntB b.told : Int) = c.n - 1
                  · have q2 : decide (a.p = 2) = false := decide_eq_false (by omega)
                    have q1 : decide (a.p = 1) = true := decide_eq_true (by omega)
                    have qn : decide ((cntB b.told : Int) = c.n - 1) = true := decide_eq_true hcn
                    have re := ends_run hth hRb hr
                    rw [show decide (b.p = 2 ∧ (cntB b.told : Int) = c.n - 1) = false from decide_eq_false fun h => by have := h.1; omega] at re
                    have rn := next_run hth hRb hr
                    rw [show decide (b.p = 1 ∧ (cntB b.told : Int) = c.n - 1) = true from decide_eq_true ⟨by omega, hcn⟩] at rn
                    obtain ⟨rn1, rn2⟩ := rn
                    refine icall_drop [] (ends_call c who b l hlb hrl) ⟨arg_conf', arg_c, arg_aud, arg_books, trivial⟩ ⟨.c _, .c _, .c _, trivial⟩ ?_
                    simp only [↓wt, wu, wk0, wk1, wk2, wk3, Nat.reduceAdd, Nat.reduceEqDiff, Nat.reduceLeDiff, Nat.reduceLT, Nat.reduceMul, Int.reduceLE, Int.reduceLT, Int.reduceEq, Int.reduceNe, wk4, laidS, keepS, re, q2, q1, qn, e5]
                    refine icall_drop [] (next_call c who b l hlb hrl) ⟨arg_conf', arg_c, arg_aud, arg_books, trivial⟩ okR_aud ?_
                    rw [rn1]
                    simp only [↓wt, wu, wk0, wk1, wk2, wk3, Nat.reduceAdd, Nat.reduceEqDiff, Nat.reduceLeDiff, Nat.reduceLT, Nat.reduceMul, Int.reduceLE, Int.reduceLT, Int.reduceEq, Int.reduceNe, wk4, laidS, keepS, AudV, q2, q1, qn, e5]
                    obtain ⟨hRn, hpn, hcn0⟩ := rn2 rn1
                    refine ⟨(k + 1, (nextA c who b l).1), ⟨by show k + 1 ≤ _; omega, hRn⟩, by show ms.length - (k + 1) < ms.length - k; omega, ?_⟩
                    generalize (nextA c who b l).1 = bn at hRn hpn hcn0 ⊢
                    simp only [↓wt, wu, wk0, wk1, wk2, wk3, wkf, Nat.reduceAdd, Nat.reduceEqDiff, Nat.reduceLeDiff, Nat.reduceLT, Nat.reduceMul, Int.reduceLE, Int.reduceLT, Int.reduceEq, Int.reduceNe, wk4, laidS, keepS, e3, hpn, hcn0, ConfA, AudV, underL_R, underL_O, underL_I, underL_M]
                    try trivial
                    try exact ⟨rfl, rfl⟩
                  · have q2 : decide (a.p = 2) = false := decide_eq_false (by omega)
                    have q1 : decide (a.p = 1) = true := decide_eq_true (by omega)
                    have qn : decide ((cntB b.told : Int) = c.n - 1) = false := decide_eq_false hcn
                    have re := ends_run hth hRb hr
                    rw [show decide (b.p = 2 ∧ (cntB b.told : Int) = c.n - 1) = false from decide_eq_false fun h => by have := h.1; omega] at re
                    have rn := next_run hth hRb hr
                    rw [show decide (b.p = 1 ∧ (cntB b.told : Int) = c.n - 1) = false from decide_eq_false fun h => hcn h.2] at rn
                    obtain ⟨rn1, rn2⟩ := rn
                    refine icall_drop [] (ends_call c who b l hlb hrl) ⟨arg_conf', arg_c, arg_aud, arg_books, trivial⟩ ⟨.c _, .c _, .c _, trivial⟩ ?_
                    simp only [↓wt, wu, wk0, wk1, wk2, wk3, Nat.reduceAdd, Nat.reduceEqDiff, Nat.reduceLeDiff, Nat.reduceLT, Nat.reduceMul, Int.reduceLE, Int.reduceLT, Int.reduceEq, Int.reduceNe, wk4, laidS, keepS, re, q2, q1, qn, e5]
                    refine icall_drop [] (next_call c who b l hlb hrl) ⟨arg_conf', arg_c, arg_aud, arg_books, trivial⟩ okR_aud ?_
                    rw [rn1]
                    simp only [↓wt, wu, wk0, wk1, wk2, wk3, Nat.reduceAdd, Nat.reduceEqDiff, Nat.reduceLeDiff, Nat.reduceLT, Nat.reduceMul, Int.reduceLE, Int.reduceLT, Int.reduceEq, Int.reduceNe, wk4, laidS, keepS, AudV, q2, q1, qn, e5]
                    refine ⟨(k + 1, b), ⟨by show k + 1 ≤ _; omega, hRb⟩, by show ms.length - (k + 1) < ms.length - k; omega, ?_⟩
                    simp only [↓wt, wu, wk0, wk1, wk2, wk3, wkf, Nat.reduceAdd, Nat.reduceEqDiff, Nat.reduceLeDiff, Nat.reduceLT, Nat.reduceMul, Int.reduceLE, Int.reduceLT, Int.reduceEq, Int.reduceNe, wk4, laidS, keepS, e3, hbp, ConfA, AudV, underL_R, underL_O, underL_I, underL_M]
                    try trivial
                · by_cases hcn : (cntB b.told : Int) = c.n - 1
                  · have q2 : decide (a.p = 2) = true := decide_eq_true (by omega)
                    have q1 : decide (a.p = 1) = false := decide_eq_false (by omega)
                    have qn : decide ((cntB b.told : Int) = c.n - 1) = true := decide_eq_true hcn
                    have re := ends_run hth hRb hr
                    rw [show decide (b.p = 2 ∧ (cntB b.told : Int) = c.n - 1) = true from decide_eq_true ⟨by omega, hcn⟩] at re
                    have rn := next_run hth hRb hr
                    rw [show decide (b.p = 1 ∧ (cntB b.told : Int) = c.n - 1) = false from decide_eq_false fun h => by have := h.1; omega] at rn
                    obtain ⟨rn1, rn2⟩ := rn
                    refine icall_drop [] (ends_call c who b l hlb hrl) ⟨arg_conf', arg_c, arg_aud, arg_books, trivial⟩ ⟨.c _, .c _, .c _, trivial⟩ ?_
                    simp only [↓wt, wu, wk0, wk1, wk2, wk3, Nat.reduceAdd, Nat.reduceEqDiff, Nat.reduceLeDiff, Nat.reduceLT, Nat.reduceMul, Int.reduceLE, Int.reduceLT, Int.reduceEq, Int.reduceNe, wk4, laidS, keepS, re, q2, q1, qn, e5]
                    refine icall_drop [] (next_call c who b l hlb hrl) ⟨arg_conf', arg_c, arg_aud, arg_books, trivial⟩ okR_aud ?_
                    rw [rn1]
                    simp only [↓wt, wu, wk0, wk1, wk2, wk3, Nat.reduceAdd, Nat.reduceEqDiff, Nat.reduceLeDiff, Nat.reduceLT, Nat.reduceMul, Int.reduceLE, Int.reduceLT, Int.reduceEq, Int.reduceNe, wk4, laidS, keepS, AudV, q2, q1, qn, e5]
                    refine ⟨(k + 1, b), ⟨by show k + 1 ≤ _; omega, hRb⟩, by show ms.length - (k + 1) < ms.length - k; omega, ?_⟩
                    simp only [↓wt, wu, wk0, wk1, wk2, wk3, wkf, Nat.reduceAdd, Nat.reduceEqDiff, Nat.reduceLeDiff, Nat.reduceLT, Nat.reduceMul, Int.reduceLE, Int.reduceLT, Int.reduceEq, Int.reduceNe, wk4, laidS, keepS, e3, hbp, ConfA, AudV, underL_R, underL_O, underL_I, underL_M]
                    try trivial
                  · have q2 : decide (a.p = 2) = true := decide_eq_true (by omega)
                    have q1 : decide (a.p = 1) = false := decide_eq_false (by omega)
                    have qn : decide ((cntB b.told : Int) = c.n - 1) = false := decide_eq_false hcn
                    have re := ends_run hth hRb hr
                    rw [show decide (b.p = 2 ∧ (cntB b.told : Int) = c.n - 1) = false from decide_eq_false fun h => hcn h.2] at re
                    have rn := next_run hth hRb hr
                    rw [show decide (b.p = 1 ∧ (cntB b.told : Int) = c.n - 1) = false from decide_eq_false fun h => by have := h.1; omega] at rn
                    obtain ⟨rn1, rn2⟩ := rn
                    refine icall_drop [] (ends_call c who b l hlb hrl) ⟨arg_conf', arg_c, arg_aud, arg_books, trivial⟩ ⟨.c _, .c _, .c _, trivial⟩ ?_
                    simp only [↓wt, wu, wk0, wk1, wk2, wk3, Nat.reduceAdd, Nat.reduceEqDiff, Nat.reduceLeDiff, Nat.reduceLT, Nat.reduceMul, Int.reduceLE, Int.reduceLT, Int.reduceEq, Int.reduceNe, wk4, laidS, keepS, re, q2, q1, qn, e5]
                    refine icall_drop [] (next_call c who b l hlb hrl) ⟨arg_conf', arg_c, arg_aud, arg_books, trivial⟩ okR_aud ?_
                    rw [rn1]
                    simp only [↓wt, wu, wk0, wk1, wk2, wk3, Nat.reduceAdd, Nat.reduceEqDiff, Nat.reduceLeDiff, Nat.reduceLT, Nat.reduceMul, Int.reduceLE, Int.reduceLT, Int.reduceEq, Int.reduceNe, wk4, laidS, keepS, AudV, q2, q1, qn, e5]
                    refine ⟨(k + 1, b), ⟨by show k + 1 ≤ _; omega, hRb⟩, by show ms.length - (k + 1) < ms.length - k; omega, ?_⟩
                    simp only [↓wt, wu, wk0, wk1, wk2, wk3, wkf, Nat.reduceAdd, Nat.reduceEqDiff, Nat.reduceLeDiff, Nat.reduceLT, Nat.reduceMul, Int.reduceLE, Int.reduceLT, Int.reduceEq, Int.reduceNe, wk4, laidS, keepS, e3, hbp, ConfA, AudV, underL_R, underL_O, underL_I, underL_M]
                    try trivial
end Go.Ab
