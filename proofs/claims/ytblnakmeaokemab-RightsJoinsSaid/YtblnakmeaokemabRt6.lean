/- Rights: what is asked; a row of books that is changed. -/
import Derived.Test.YtblnakmeaokemabRt5
import Derived.Test.YtblnakmeaokemabAbG8
set_option linter.unusedSimpArgs false
set_option linter.unusedVariables false
set_option linter.constructorNameAsVariable false
set_option maxRecDepth 100000
namespace Go.Ab
open Go Go.Proofs Go.RowKit

def askC (c : Conf) (l : List RowD) (w a : Int) : Int := if RightB c l ∧ There c w then (if 1 ≤ a ∧ a ≤ 1099511627776 then 0 else 2) else 1
theorem asked_call (c : Conf) (l : List RowD) (w a : Int) (hl : Lens l) : PCall Try.prog 39 [ConfA c, BooksV l, .c (.int .i64 w), .c (.int .i64 a)] (.c (.int .i64 (askC c l w a))) := by
  have m1 := right_call c l hl
  have m2 := there_call c w
  refine pcall_body tabOk Try.func39 rfl rfl (by rw [Try.ntmps39]; simp) ?_
  simp only [Try.ntmps39, ConfA, BooksV]
  simp only [↓wt, wu, wk0, wk1, wk2, wk3, Nat.reduceAdd, Nat.reduceEqDiff, Nat.reduceLeDiff, Nat.reduceLT, Nat.reduceMul, Int.reduceLE, Int.reduceLT, Int.reduceEq, Int.reduceNe, wk4, laidS, keepS]
  refine icall_drop [] m1 ⟨arg_conf', arg_books, trivial⟩ (.c _) ?_
  simp only [↓wt, wu, wk0, wk1, wk2, wk3, Nat.reduceAdd, Nat.reduceEqDiff, Nat.reduceLeDiff, Nat.reduceLT, Nat.reduceMul, Int.reduceLE, Int.reduceLT, Int.reduceEq, Int.reduceNe, wk4, laidS, keepS]
  refine r_gcasesN (fun h1 hb => ?_) (fun h1 hb => ?_) <;> simp only [↓wt, wu, wk0, wk1, wk2, wk3, Nat.reduceAdd, Nat.reduceEqDiff, Nat.reduceLeDiff, Nat.reduceLT, Nat.reduceMul, Int.reduceLE, Int.reduceLT, Int.reduceEq, Int.reduceNe, wk4, laidS, keepS, hb]
  · refine icall_drop [] m2 ⟨arg_conf', arg_c, trivial⟩ (.c _) ?_
    simp only [↓wt, wu, wk0, wk1, wk2, wk3, Nat.reduceAdd, Nat.reduceEqDiff, Nat.reduceLeDiff, Nat.reduceLT, Nat.reduceMul, Int.reduceLE, Int.reduceLT, Int.reduceEq, Int.reduceNe, wk4, laidS, keepS]
    refine r_casesN (fun h2 hb => ?_) (fun h2 hb => ?_) <;> simp only [↓wt, wu, wk0, wk1, wk2, wk3, Nat.reduceAdd, Nat.reduceEqDiff, Nat.reduceLeDiff, Nat.reduceLT, Nat.reduceMul, Int.reduceLE, Int.reduceLT, Int.reduceEq, Int.reduceNe, wk4, laidS, keepS, hb]
    · repeat' (first | (refine r_casesD (fun hp hb => ?_) (fun hp hb => ?_) <;> simp only [↓wt, wu, wk0, wk1, wk2, wk3, Nat.reduceAdd, Nat.reduceEqDiff, Nat.reduceLeDiff, Nat.reduceLT, Nat.reduceMul, Int.reduceLE, Int.reduceLT, Int.reduceEq, Int.reduceNe, wk4, laidS, keepS, Try.results39, hb]) | (refine r_casesN (fun hp hb => ?_) (fun hp hb => ?_) <;> simp only [↓wt, wu, wk0, wk1, wk2, wk3, Nat.reduceAdd, Nat.reduceEqDiff, Nat.reduceLeDiff, Nat.reduceLT, Nat.reduceMul, Int.reduceLE, Int.reduceLT, Int.reduceEq, Int.reduceNe, wk4, laidS, keepS, Try.results39, hb]) | (refine r_casesM (fun hp hb => ?_) (fun hp hb => ?_) <;> simp only [↓wt, wu, wk0, wk1, wk2, wk3, Nat.reduceAdd, Nat.reduceEqDiff, Nat.reduceLeDiff, Nat.reduceLT, Nat.reduceMul, Int.reduceLE, Int.reduceLT, Int.reduceEq, Int.reduceNe, wk4, laidS, keepS, Try.results39, hb]) | (refine r_casesB (fun hp hb => ?_) (fun hp hb => ?_) <;> simp only [↓wt, wu, wk0, wk1, wk2, wk3, Nat.reduceAdd, Nat.reduceEqDiff, Nat.reduceLeDiff, Nat.reduceLT, Nat.reduceMul, Int.reduceLE, Int.reduceLT, Int.reduceEq, Int.reduceNe, wk4, laidS, keepS, Try.results39, hb]) | (refine r_gcasesD (fun hp hb => ?_) (fun hp hb => ?_) <;> simp only [↓wt, wu, wk0, wk1, wk2, wk3, Nat.reduceAdd, Nat.reduceEqDiff, Nat.reduceLeDiff, Nat.reduceLT, Nat.reduceMul, Int.reduceLE, Int.reduceLT, Int.reduceEq, Int.reduceNe, wk4, laidS, keepS, Try.results39, hb]) | (refine r_gcasesN (fun hp hb => ?_) (fun hp hb => ?_) <;> simp only [↓wt, wu, wk0, wk1, wk2, wk3, Nat.reduceAdd, Nat.reduceEqDiff, Nat.reduceLeDiff, Nat.reduceLT, Nat.reduceMul, Int.reduceLE, Int.reduceLT, Int.reduceEq, Int.reduceNe, wk4, laidS, keepS, Try.results39, hb]) | (refine r_gcasesM (fun hp hb => ?_) (fun hp hb => ?_) <;> simp only [↓wt, wu, wk0, wk1, wk2, wk3, Nat.reduceAdd, Nat.reduceEqDiff, Nat.reduceLeDiff, Nat.reduceLT, Nat.reduceMul, Int.reduceLE, Int.reduceLT, Int.reduceEq, Int.reduceNe, wk4, laidS, keepS, Try.results39, hb]) | (refine r_gcasesB (fun hp hb => ?_) (fun hp hb => ?_) <;> simp only [↓wt, wu, wk0, wk1, wk2, wk3, Nat.reduceAdd, Nat.reduceEqDiff, Nat.reduceLeDiff, Nat.reduceLT, Nat.reduceMul, Int.reduceLE, Int.reduceLT, Int.reduceEq, Int.reduceNe, wk4, laidS, keepS, Try.results39, hb]) | ((with_reducible refine And.intro ?_ ?_); omega) | fail)
      · exact exp_i (by rw [askC, if_pos ⟨h1, h2⟩, if_neg (by omega)])
      · exact exp_i (by rw [askC, if_pos ⟨h1, h2⟩, if_neg (by omega)])
      · exact exp_i (by rw [askC, if_pos ⟨h1, h2⟩, if_pos (by omega)])
    · simp only [↓wt, wu, wk0, wk1, wk2, wk3, Nat.reduceAdd, Nat.reduceEqDiff, Nat.reduceLeDiff, Nat.reduceLT, Nat.reduceMul, Int.reduceLE, Int.reduceLT, Int.reduceEq, Int.reduceNe, wk4, laidS, keepS, Try.results39]
      exact exp_i (by rw [askC, if_neg fun h => h2 h.2])
  · simp only [↓wt, wu, wk0, wk1, wk2, wk3, Nat.reduceAdd, Nat.reduceEqDiff, Nat.reduceLeDiff, Nat.reduceLT, Nat.reduceMul, Int.reduceLE, Int.reduceLT, Int.reduceEq, Int.reduceNe, wk4, laidS, keepS, Try.results39]
    exact exp_i (by rw [askC, if_neg fun h => h1 h.1])
theorem rasked_call (c : Conf) (l : List RowD) (w a : Int) (hl : Lens l) : PCall Try.prog 44 [ConfA c, BooksV l, .c (.int .i64 w), .c (.int .i64 a)] (.c (.int .i64 (askC c l w a))) := by
  have m1 := rright_call c l hl
  refine pcall_body tabOk Try.func44 rfl rfl (by rw [Try.ntmps44]; simp) ?_
  simp only [Try.ntmps44, ConfA, BooksV]
  simp only [↓wt, wu, wk0, wk1, wk2, wk3, Nat.reduceAdd, Nat.reduceEqDiff, Nat.reduceLeDiff, Nat.reduceLT, Nat.reduceMul, Int.reduceLE, Int.reduceLT, Int.reduceEq, Int.reduceNe, wk4, laidS, keepS]
  refine icall_drop [] m1 ⟨arg_conf', arg_books, trivial⟩ (.c _) ?_
  simp only [↓wt, wu, wk0, wk1, wk2, wk3, Nat.reduceAdd, Nat.reduceEqDiff, Nat.reduceLeDiff, Nat.reduceLT, Nat.reduceMul, Int.reduceLE, Int.reduceLT, Int.reduceEq, Int.reduceNe, wk4, laidS, keepS]
  refine r_gcasesN (fun h1 hb => ?_) (fun h1 hb => ?_) <;> simp only [↓wt, wu, wk0, wk1, wk2, wk3, Nat.reduceAdd, Nat.reduceEqDiff, Nat.reduceLeDiff, Nat.reduceLT, Nat.reduceMul, Int.reduceLE, Int.reduceLT, Int.reduceEq, Int.reduceNe, wk4, laidS, keepS, hb]
  · repeat' (first | (refine r_casesD (fun hp hb => ?_) (fun hp hb => ?_) <;> simp only [↓wt, wu, wk0, wk1, wk2, wk3, Nat.reduceAdd, Nat.reduceEqDiff, Nat.reduceLeDiff, Nat.reduceLT, Nat.reduceMul, Int.reduceLE, Int.reduceLT, Int.reduceEq, Int.reduceNe, wk4, laidS, keepS, Try.results44, hb]) | (refine r_casesN (fun hp hb => ?_) (fun hp hb => ?_) <;> simp only [↓wt, wu, wk0, wk1, wk2, wk3, Nat.reduceAdd, Nat.reduceEqDiff, Nat.reduceLeDiff, Nat.reduceLT, Nat.reduceMul, Int.reduceLE, Int.reduceLT, Int.reduceEq, Int.reduceNe, wk4, laidS, keepS, Try.results44, hb]) | (refine r_casesM (fun hp hb => ?_) (fun hp hb => ?_) <;> simp only [↓wt, wu, wk0, wk1, wk2, wk3, Nat.reduceAdd, Nat.reduceEqDiff, Nat.reduceLeDiff, Nat.reduceLT, Nat.reduceMul, Int.reduceLE, Int.reduceLT, Int.reduceEq, Int.reduceNe, wk4, laidS, keepS, Try.results44, hb]) | (refine r_casesB (fun hp hb => ?_) (fun hp hb => ?_) <;> simp only [↓wt, wu, wk0, wk1, wk2, wk3, Nat.reduceAdd, Nat.reduceEqDiff, Nat.reduceLeDiff, Nat.reduceLT, Nat.reduceMul, Int.reduceLE, Int.reduceLT, Int.reduceEq, Int.reduceNe, wk4, laidS, keepS, Try.results44, hb]) | (refine r_gcasesD (fun hp hb => ?_) (fun hp hb => ?_) <;> simp only [↓wt, wu, wk0, wk1, wk2, wk3, Nat.reduceAdd, Nat.reduceEqDiff, Nat.reduceLeDiff, Nat.reduceLT, Nat.reduceMul, Int.reduceLE, Int.reduceLT, Int.reduceEq, Int.reduceNe, wk4, laidS, keepS, Try.results44, hb]) | (refine r_gcasesN (fun hp hb => ?_) (fun hp hb => ?_) <;> simp only [↓wt, wu, wk0, wk1, wk2, wk3, Nat.reduceAdd, Nat.reduceEqDiff, Nat.reduceLeDiff, Nat.reduceLT, Nat.reduceMul, Int.reduceLE, Int.reduceLT, Int.reduceEq, Int.reduceNe, wk4, laidS, keepS, Try.results44, hb]) | (refine r_gcasesM (fun hp hb => ?_) (fun hp hb => ?_) <;> simp only [↓wt, wu, wk0, wk1, wk2, wk3, Nat.reduceAdd, Nat.reduceEqDiff, Nat.reduceLeDiff, Nat.reduceLT, Nat.reduceMul, Int.reduceLE, Int.reduceLT, Int.reduceEq, Int.reduceNe, wk4, laidS, keepS, Try.results44, hb]) | (refine r_gcasesB (fun hp hb => ?_) (fun hp hb => ?_) <;> simp only [↓wt, wu, wk0, wk1, wk2, wk3, Nat.reduceAdd, Nat.reduceEqDiff, Nat.reduceLeDiff, Nat.reduceLT, Nat.reduceMul, Int.reduceLE, Int.reduceLT, Int.reduceEq, Int.reduceNe, wk4, laidS, keepS, Try.results44, hb]) | ((with_reducible refine And.intro ?_ ?_); omega) | fail)
    · exact exp_i (by rw [askC, if_neg fun h => by have := h.2.1; omega])
    · exact exp_i (by rw [askC, if_neg fun h => by have := h.2.2; omega])
    · exact exp_i (by rw [askC, if_pos ⟨h1, by omega, by omega⟩, if_neg (by omega)])
    · exact exp_i (by rw [askC, if_pos ⟨h1, by omega, by omega⟩, if_neg (by omega)])
    · exact exp_i (by rw [askC, if_pos ⟨h1, by omega, by omega⟩, if_pos (by omega)])
  · simp only [↓wt, wu, wk0, wk1, wk2, wk3, Nat.reduceAdd, Nat.reduceEqDiff, Nat.reduceLeDiff, Nat.reduceLT, Nat.reduceMul, Int.reduceLE, Int.reduceLT, Int.reduceEq, Int.reduceNe, wk4, laidS, keepS, Try.results44]
    exact exp_i (by rw [askC, if_neg fun h => h1 h.1])
theorem cloneR_call (l : List RowD) (h0 : l ≠ []) (hl : l.length ≤ 1000000000) : PCall Try.prog 52 [.l 3 (l.map RowV)] (.o 49 3 (l.map RowV)) := by
  refine pcall_body tabOk Try.func52 rfl rfl (by rw [Try.ntmps52]; simp) ?_
  simp only [Try.ntmps52]
  simp only [↓wt, wu, wk0, wk1, wk2, wk3, Nat.reduceAdd, Nat.reduceEqDiff, Nat.reduceLeDiff, Nat.reduceLT, Nat.reduceMul, Int.reduceLE, Int.reduceLT, Int.reduceEq, Int.reduceNe, wk4, laidS, keepS, nilBinK]
  intro b hb
  have hb : b = false := by
    cases b
    · rfl
    · exact absurd (by simpa using hb rfl) h0
  subst hb
  simp only [↓wt, wu, wk0, wk1, wk2, wk3, Nat.reduceAdd, Nat.reduceEqDiff, Nat.reduceLeDiff, Nat.reduceLT, Nat.reduceMul, Int.reduceLE, Int.reduceLT, Int.reduceEq, Int.reduceNe, wk4, laidS, keepS]
  repeat (refine And.intro (by omega) ?_)
  simp only [↓wt, wu, wk0, wk1, wk2, wk3, Nat.reduceAdd, Nat.reduceEqDiff, Nat.reduceLeDiff, Nat.reduceLT, Nat.reduceMul, Int.reduceLE, Int.reduceLT, Int.reduceEq, Int.reduceNe, wk4, laidS, keepS, Try.results52]
  exact exp_own rfl (by simp) (pureR l)
theorem cloneI_call (l : List Int) (h0 : l ≠ []) (hl : l.length ≤ 1000000000) : PCall Try.prog 53 [.l 1 (l.map encI)] (.o 2 1 (l.map encI)) := by
  refine pcall_body tabOk Try.func53 rfl rfl (by rw [Try.ntmps53]; simp) ?_
  simp only [Try.ntmps53]
  simp only [↓wt, wu, wk0, wk1, wk2, wk3, Nat.reduceAdd, Nat.reduceEqDiff, Nat.reduceLeDiff, Nat.reduceLT, Nat.reduceMul, Int.reduceLE, Int.reduceLT, Int.reduceEq, Int.reduceNe, wk4, laidS, keepS, nilBinK]
  intro b hb
  have hb : b = false := by
    cases b
    · rfl
    · exact absurd (by simpa using hb rfl) h0
  subst hb
  simp only [↓wt, wu, wk0, wk1, wk2, wk3, Nat.reduceAdd, Nat.reduceEqDiff, Nat.reduceLeDiff, Nat.reduceLT, Nat.reduceMul, Int.reduceLE, Int.reduceLT, Int.reduceEq, Int.reduceNe, wk4, laidS, keepS]
  repeat (refine And.intro (by omega) ?_)
  simp only [↓wt, wu, wk0, wk1, wk2, wk3, Nat.reduceAdd, Nat.reduceEqDiff, Nat.reduceLeDiff, Nat.reduceLT, Nat.reduceMul, Int.reduceLE, Int.reduceLT, Int.reduceEq, Int.reduceNe, wk4, laidS, keepS, Try.results53]
  exact exp_own rfl (by simp) (pureI l)
/-- Books of the call's own, with a row whose numbers are the call's own, too. -/
def chM (l : List RowD) (w : Nat) (i u : Int) (o : List Int) : Mem := ⟨[(0, ⟨49, 3, (l.map RowV).set w (.g [.c (.int .i64 i), .c (.int .i64 u), .s 1 0 o.length])⟩), (1, ⟨2, 1, o.map encI⟩)], 2⟩
theorem changed_call (l : List RowD) (w : Nat) (f : FuncId) (caps : List AV) (r' : RowD) (hw : w < l.length) (hl : l.length ≤ 1000000000) (ho : (rowAt l w).o ≠ []) (ho2 : (rowAt l w).o.length ≤ 1000000000) (hu : ∀ a ∈ caps, Under 0 a)
    (hcl : ∀ K : AV → Mem → Prop, K (.t []) (chM l w r'.i r'.u r'.o) → ICall Try.prog f ([.p 0 w 0 l.length] ++ caps) (chM l w (rowAt l w).i (rowAt l w).u (rowAt l w).o) K) :
    PCall Try.prog 40 [BooksV l, .c (.int .i64 w), .f f caps] (BooksV (l.set w r')) := by
  have m1 := cloneR_call l (by intro h; rw [h] at hw; simp at hw) hl
  have m2 := cloneI_call (rowAt l w).o ho ho2
  refine pcall_bodyF tabOk Try.func40 rfl rfl (by rw [Try.ntmps40]; simp) ?_
  simp only [Try.ntmps40, BooksV]
  simp only [↓wt, wu, wk0, wk1, wk2, wk3, Nat.reduceAdd, Nat.reduceEqDiff, Nat.reduceLeDiff, Nat.reduceLT, Nat.reduceMul, Int.reduceLE, Int.reduceLT, Int.reduceEq, Int.reduceNe, wk4, laidS, keepS]
  refine icall_drop [] m1 ⟨arg_books, trivial⟩ (fun i hi j hj => under_RowV _ _ (by simp only [List.getElem_map]; exact List.getElem_mem _)) ?_
  simp only [↓wt, wu, wk0, wk1, wk2, wk3, Nat.reduceAdd, Nat.reduceEqDiff, Nat.reduceLeDiff, Nat.reduceLT, Nat.reduceMul, Int.reduceLE, Int.reduceLT, Int.reduceEq, Int.reduceNe, wk4, laidS, keepS]
  simp only [↓wt, wu, wk0, wk1, wk2, wk3, Nat.reduceAdd, Nat.reduceEqDiff, Nat.reduceLeDiff, Nat.reduceLT, Nat.reduceMul, Int.reduceLE, Int.reduceLT, Int.reduceEq, Int.reduceNe, wk4, laidS, keepS, elem_R, RowV_eq]
  repeat (refine And.intro (by omega) ?_)
  refine icall_drop [] m2 ⟨arg_l (pureI _), trivial⟩ (fun i hi j hj => pureI _ i hi j hj) ?_
  simp only [↓wt, wu, wk0, wk1, wk2, wk3, Nat.reduceAdd, Nat.reduceEqDiff, Nat.reduceLeDiff, Nat.reduceLT, Nat.reduceMul, Int.reduceLE, Int.reduceLT, Int.reduceEq, Int.reduceNe, wk4, laidS, keepS, elem_R, RowV_eq, Cell, List.length_set, r_callV]
  repeat (refine And.intro (by omega) ?_)
  refine hcl _ ?_
  unfold chM
  simp only [↓wt, wu, wk0, wk1, wk2, wk3, Nat.reduceAdd, Nat.reduceEqDiff, Nat.reduceLeDiff, Nat.reduceLT, Nat.reduceMul, Int.reduceLE, Int.reduceLT, Int.reduceEq, Int.reduceNe, wk4, laidS, keepS, Try.results40]
  have hR : ∀ x ∈ l.map RowV, ∀ c ∈ x.cells, ∀ M id, FOk M id c ∧ frzC M id c = c := fun x hx c hc M id => by
    obtain ⟨r, _, rfl⟩ := List.mem_map.1 hx
    simp only [RowV, RowA, AV.cells, List.mem_cons, List.not_mem_nil, or_false] at hc
    rcases hc with rfl | rfl | rfl <;> exact ⟨trivial, rfl⟩
  refine .step 1 ?_ ?_ (.done ?_)
  · simp only [remove, nbeq, Nat.reduceEqDiff, decide_true, decide_false, cond_true, cond_false, BOk, and_true]
    intro x hx c hc
    rcases List.mem_or_eq_of_mem_set hx with hx | rfl
    · exact (hR x hx c hc _ _).1
    · simp only [AV.cells, List.mem_cons, List.not_mem_nil, or_false] at hc
      rcases hc with rfl | rfl | rfl
      · trivial
      · trivial
      · exact fun _ => ⟨_, rfl, by simp, pureI _⟩
  · exact fun h => absurd h (by decide)
  · have hfz : ∀ M id, (l.map RowV).map (frzE M id) = l.map RowV := fun M id => frz_data fun x hx => by
      obtain ⟨r, _, rfl⟩ := List.mem_map.1 hx
      rfl
    have hset : (l.map RowV).set w (RowV r') = (l.set w r').map RowV := List.map_set.symm
    have hx : frzE ⟨[(0, ⟨49, 3, (l.map RowV).set w (.g [.c (.int .i64 r'.i), .c (.int .i64 r'.u), .s 1 0 r'.o.length])⟩), (1, ⟨2, 1, r'.o.map encI⟩)], 2⟩ 1 (.g [.c (.int .i64 r'.i), .c (.int .i64 r'.u), .s 1 0 r'.o.length]) = RowV r' := rfl
    have hxs : ((l.map RowV).set w (.g [.c (.int .i64 r'.i), .c (.int .i64 r'.u), .s 1 0 r'.o.length])).map (frzE ⟨[(0, ⟨49, 3, (l.map RowV).set w (.g [.c (.int .i64 r'.i), .c (.int .i64 r'.u), .s 1 0 r'.o.length])⟩), (1, ⟨2, 1, r'.o.map encI⟩)], 2⟩ 1) = (l.set w r').map RowV := by
      rw [List.map_set, hfz, hx, hset]
    refine exp_frz (off := 0) (T := 49) (ys := (l.set w r').map RowV) ?_ (by simp) rfl (pureR _)
    show some (⟨49, 3, _⟩ : Blk) = _
    rw [← hxs]
/-- The closures that change a row. -/
theorem store_set {l : List AV} {w : Nat} {x y : AV} : (l.set w x).set w y = l.set w y := List.set_set ..
theorem put1_call (l : List RowD) (w : Nat) (i u a : Int) (o : List Int) (hw : w < l.length) (h1 : 0 ≤ i ∧ i ≤ 1099511627776) (h2 : 0 ≤ a ∧ a ≤ 1099511627776) (K : AV → Mem → Prop) (hK : K (.t []) (chM l w (i + a) u o)) :
    ICall Try.prog 41 ([.p 0 w 0 l.length] ++ [.e [.c (.int .i64 a)]]) (chM l w i u o) K := by
  refine icall_body tabOk Try.func41 rfl rfl (by rw [Try.ntmps41]; simp) (aw_sound tabOk _ _ _ ?_)
  simp only [Try.ntmps41, chM]
  simp only [↓wt, wu, wk0, wk1, wk2, wk3, Nat.reduceAdd, Nat.reduceEqDiff, Nat.reduceLeDiff, Nat.reduceLT, Nat.reduceMul, Int.reduceLE, Int.reduceLT, Int.reduceEq, Int.reduceNe, wk4, laidS, keepS]
  refine draw_rule tabOk mixed [0, 0, 0, 2, 2, 0, 0, 0, 1] [[], [0], [0, 1], [0, 1, 2], [], [0, 1, 2, 3, 4], [0, 1, 2, 3, 4, 5], [0, 1, 2, 3, 4, 5, 6], [0, 1, 2, 3, 4, 5, 6, 7]] (by kernel_rfl) ?_
  have e1 : IntKind.i64.wrap (i + a) = i + a := wrap_i64 (by omega) (by omega)
  simp only [↓wt, wu, wk0, wk1, wk2, wk3, Nat.reduceAdd, Nat.reduceEqDiff, Nat.reduceLeDiff, Nat.reduceLT, Nat.reduceMul, Int.reduceLE, Int.reduceLT, Int.reduceEq, Int.reduceNe, wk4, laidS, keepS, elem_set, Cell, List.length_set, store_set, e1]
  repeat (refine And.intro (by omega) ?_)
  refine d_heavyX (by simp only [↓wt, wu, wk0, wk1, wk2, wk3, Nat.reduceAdd, Nat.reduceEqDiff, Nat.reduceLeDiff, Nat.reduceLT, Nat.reduceMul, Int.reduceLE, Int.reduceLT, Int.reduceEq, Int.reduceNe, wk4, laidS, keepS, elem_set, Cell, List.length_set, store_set, e1]; (repeat (first | refine And.intro (by omega) ?_ | refine And.intro (pureB _) ?_ | refine And.intro (pureI _) ?_ | refine And.intro ⟨pureB _, pureB _⟩ ?_ | refine And.intro ⟨pureB _, pureI _⟩ ?_ | refine And.intro ⟨pureI _, pureB _⟩ ?_ | refine And.intro ⟨pureI _, pureI _⟩ ?_)); exact ⟨rfl, rfl⟩) ?_
  simp only [↓wt, wu, wk0, wk1, wk2, wk3, Nat.reduceAdd, Nat.reduceEqDiff, Nat.reduceLeDiff, Nat.reduceLT, Nat.reduceMul, Int.reduceLE, Int.reduceLT, Int.reduceEq, Int.reduceNe, wk4, laidS, keepS]
  exact hK
theorem take1_call (l : List RowD) (w : Nat) (i u a : Int) (o : List Int) (hw : w < l.length) (h1 : 0 ≤ u ∧ u ≤ 1099511627776) (h2 : 0 ≤ a ∧ a ≤ 1099511627776) (K : AV → Mem → Prop) (hK : K (.t []) (chM l w i (u + a) o)) :
    ICall Try.prog 42 ([.p 0 w 0 l.length] ++ [.e [.c (.int .i64 a)]]) (chM l w i u o) K := by
  refine icall_body tabOk Try.func42 rfl rfl (by rw [Try.ntmps42]; simp) (aw_sound tabOk _ _ _ ?_)
  simp only [Try.ntmps42, chM]
  simp only [↓wt, wu, wk0, wk1, wk2, wk3, Nat.reduceAdd, Nat.reduceEqDiff, Nat.reduceLeDiff, Nat.reduceLT, Nat.reduceMul, Int.reduceLE, Int.reduceLT, Int.reduceEq, Int.reduceNe, wk4, laidS, keepS]
  refine draw_rule tabOk mixed [0, 0, 0, 2, 2, 0, 0, 0, 1] [[], [0], [0, 1], [0, 1, 2], [], [0, 1, 2, 3, 4], [0, 1, 2, 3, 4, 5], [0, 1, 2, 3, 4, 5, 6], [0, 1, 2, 3, 4, 5, 6, 7]] (by kernel_rfl) ?_
  have e1 : IntKind.i64.wrap (u + a) = u + a := wrap_i64 (by omega) (by omega)
  simp only [↓wt, wu, wk0, wk1, wk2, wk3, Nat.reduceAdd, Nat.reduceEqDiff, Nat.reduceLeDiff, Nat.reduceLT, Nat.reduceMul, Int.reduceLE, Int.reduceLT, Int.reduceEq, Int.reduceNe, wk4, laidS, keepS, elem_set, Cell, List.length_set, store_set, e1]
  repeat (refine And.intro (by omega) ?_)
  refine d_heavyX (by simp only [↓wt, wu, wk0, wk1, wk2, wk3, Nat.reduceAdd, Nat.reduceEqDiff, Nat.reduceLeDiff, Nat.reduceLT, Nat.reduceMul, Int.reduceLE, Int.reduceLT, Int.reduceEq, Int.reduceNe, wk4, laidS, keepS, elem_set, Cell, List.length_set, store_set, e1]; (repeat (first | refine And.intro (by omega) ?_ | refine And.intro (pureB _) ?_ | refine And.intro (pureI _) ?_ | refine And.intro ⟨pureB _, pureB _⟩ ?_ | refine And.intro ⟨pureB _, pureI _⟩ ?_ | refine And.intro ⟨pureI _, pureB _⟩ ?_ | refine And.intro ⟨pureI _, pureI _⟩ ?_)); exact ⟨rfl, rfl⟩) ?_
  simp only [↓wt, wu, wk0, wk1, wk2, wk3, Nat.reduceAdd, Nat.reduceEqDiff, Nat.reduceLeDiff, Nat.reduceLT, Nat.reduceMul, Int.reduceLE, Int.reduceLT, Int.reduceEq, Int.reduceNe, wk4, laidS, keepS]
  exact hK
theorem mapI_set {o : List Int} {k : Nat} {v : Int} : (o.map encI).set k (.c (.int .i64 v)) = (o.set k v).map encI := by rw [← encI_eq]; exact List.map_set.symm
theorem move1_call (l : List RowD) (w to : Nat) (i u a : Int) (o : List Int) (hw : w < l.length) (ht : to < o.length) (h1 : 0 ≤ o.getD to 0 ∧ o.getD to 0 ≤ 1125899906842624) (h2 : 0 ≤ a ∧ a ≤ 1099511627776) (K : AV → Mem → Prop) (hK : K (.t []) (chM l w i u (o.set to (o.getD to 0 + a)))) :
    ICall Try.prog 43 ([.p 0 w 0 l.length] ++ [.e [.c (.int .i64 to)], .e [.c (.int .i64 a)]]) (chM l w i u o) K := by
  refine icall_body tabOk Try.func43 rfl rfl (by rw [Try.ntmps43]; simp) (aw_sound tabOk _ _ _ ?_)
  simp only [Try.ntmps43, chM]
  simp only [↓wt, wu, wk0, wk1, wk2, wk3, Nat.reduceAdd, Nat.reduceEqDiff, Nat.reduceLeDiff, Nat.reduceLT, Nat.reduceMul, Int.reduceLE, Int.reduceLT, Int.reduceEq, Int.reduceNe, wk4, laidS, keepS]
  refine draw_rule tabOk mixed [0, 0, 0, 2, 2, 2, 2, 2, 0, 2, 1] [[], [0], [0, 1], [0, 1, 2], [], [0, 1, 2, 3, 4], [0, 1, 2, 3, 4, 5], [], [0, 1, 2, 3, 4, 5, 6, 7], [0, 1, 2, 3, 4, 5, 6, 7, 8], [0, 1, 2, 3, 4, 5, 6, 7, 8, 9]] (by kernel_rfl) ?_
  have e1 : IntKind.i64.wrap (o.getD to 0 + a) = o.getD to 0 + a := wrap_i64 (by omega) (by omega)
  simp only [↓wt, wu, wk0, wk1, wk2, wk3, Nat.reduceAdd, Nat.reduceEqDiff, Nat.reduceLeDiff, Nat.reduceLT, Nat.reduceMul, Int.reduceLE, Int.reduceLT, Int.reduceEq, Int.reduceNe, wk4, laidS, keepS, elem_set, Cell, List.length_set, store_set, e1, encI_eq, mapI_set]
  repeat (refine And.intro (by omega) ?_)
  refine d_heavyX (by simp only [↓wt, wu, wk0, wk1, wk2, wk3, Nat.reduceAdd, Nat.reduceEqDiff, Nat.reduceLeDiff, Nat.reduceLT, Nat.reduceMul, Int.reduceLE, Int.reduceLT, Int.reduceEq, Int.reduceNe, wk4, laidS, keepS, elem_set, Cell, List.length_set, store_set, e1, encI_eq, mapI_set]; (repeat (first | refine And.intro (by omega) ?_ | refine And.intro (pureB _) ?_ | refine And.intro (pureI _) ?_ | refine And.intro ⟨pureB _, pureB _⟩ ?_ | refine And.intro ⟨pureB _, pureI _⟩ ?_ | refine And.intro ⟨pureI _, pureB _⟩ ?_ | refine And.intro ⟨pureI _, pureI _⟩ ?_)); exact ⟨rfl, rfl⟩) ?_
  simp only [↓wt, wu, wk0, wk1, wk2, wk3, Nat.reduceAdd, Nat.reduceEqDiff, Nat.reduceLeDiff, Nat.reduceLT, Nat.reduceMul, Int.reduceLE, Int.reduceLT, Int.reduceEq, Int.reduceNe, wk4, laidS, keepS]
  unfold chM at hK
  rw [List.length_set] at hK
  exact hK
end Go.Ab
