/- Structs of whole numbers are compared: looks, stamps, requests, notes. -/
import Derived.Test.YtblnakmeaokemadCl1
import Derived.Test.YtblnakmeaokemadRt17
import Derived.Test.YtblnakmeaokemadRt9
set_option linter.unusedSimpArgs false
set_option linter.unusedVariables false
set_option linter.constructorNameAsVariable false
set_option maxRecDepth 100000
namespace Go.Ab
open Go Go.Proofs Go.RowKit

theorem eqi_look : EqI Try.prog 2 38 2 :=
  EqI.of (D := 0) Try.underlying38 (by kernel_rfl) (.int (by decide) rfl Try.underlying2 (.int (by decide) rfl Try.underlying3 .nil))
theorem eqi_stamp : EqI Try.prog 2 28 2 :=
  EqI.of (D := 0) Try.underlying28 (by kernel_rfl) (.int (by decide) rfl Try.underlying2 (.int (by decide) rfl Try.underlying3 .nil))
theorem eqi_request : EqI Try.prog 3 30 3 :=
  EqI.of (D := 1) Try.underlying30 (by kernel_rfl) (.st (m := 2) (by decide) rfl ti28 rfl rfl eqi_stamp (.int (by decide) rfl Try.underlying2 .nil))
theorem eqi_note : EqI Try.prog 4 40 7 :=
  EqI.of (D := 2) Try.underlying40 (by kernel_rfl) (.int (by decide) rfl Try.underlying2 (.st (m := 3) (by decide) rfl ti30 rfl rfl eqi_request (.int (by decide) rfl Try.underlying3 (.st (m := 2) (by decide) rfl ti38 rfl rfl (eqi_look.mono (k := 1)) .nil))))
theorem look_eql {M : Mem} {K : AV → Mem → Prop} {a b c d : Int} : aggBinK Try.prog 38 M [.c (.int .i64 a), .c (.int .i64 b)] [.c (.int .i64 c), .c (.int .i64 d)] K .eql = K (.c (.bool (decide (a = c ∧ b = d)))) M :=
  agg_eql eqi_look (by decide) (by kernel_rfl) (l := [a, b]) (m := [c, d]) rfl rfl (by simp)
theorem look_neq {M : Mem} {K : AV → Mem → Prop} {a b c d : Int} : aggBinK Try.prog 38 M [.c (.int .i64 a), .c (.int .i64 b)] [.c (.int .i64 c), .c (.int .i64 d)] K .neq = K (.c (.bool (!decide (a = c ∧ b = d)))) M :=
  agg_neq eqi_look (by decide) (by kernel_rfl) (l := [a, b]) (m := [c, d]) rfl rfl (by simp)
theorem stamp_eql {M : Mem} {K : AV → Mem → Prop} {a b c d : Int} : aggBinK Try.prog 28 M [.c (.int .i64 a), .c (.int .i64 b)] [.c (.int .i64 c), .c (.int .i64 d)] K .eql = K (.c (.bool (decide (a = c ∧ b = d)))) M :=
  agg_eql eqi_stamp (by decide) (by kernel_rfl) (l := [a, b]) (m := [c, d]) rfl rfl (by simp)
theorem req_eql {M : Mem} {K : AV → Mem → Prop} {a b e c d f : Int} : aggBinK Try.prog 30 M [.c (.int .i64 a), .c (.int .i64 b), .c (.int .i64 e)] [.c (.int .i64 c), .c (.int .i64 d), .c (.int .i64 f)] K .eql = K (.c (.bool (decide (a = c ∧ b = d ∧ e = f)))) M :=
  agg_eql eqi_request (by decide) (by kernel_rfl) (l := [a, b, e]) (m := [c, d, f]) rfl rfl (by simp)
/-- A note. -/
structure NoteD where
  ck : Int
  t : Int
  w : Int
  a : Int
  k : Int
  y : Int
  p : Int
  deriving Inhabited, DecidableEq
def noteL (n : NoteD) : List Int := [n.ck, n.t, n.w, n.a, n.k, n.y, n.p]
theorem noteL_inj {n m : NoteD} : noteL n = noteL m ↔ n = m := by
  cases n; cases m; simp [noteL]
def note0 : NoteD := ⟨0, 0, 0, 0, 0, 0, 0⟩
def NoteV (n : NoteD) : AV := .g [.c (.int .i64 n.ck), .c (.int .i64 n.t), .c (.int .i64 n.w), .c (.int .i64 n.a), .c (.int .i64 n.k), .c (.int .i64 n.y), .c (.int .i64 n.p)]
theorem NoteV_eq {n : NoteD} : NoteV n = .g [.c (.int .i64 n.ck), .c (.int .i64 n.t), .c (.int .i64 n.w), .c (.int .i64 n.a), .c (.int .i64 n.k), .c (.int .i64 n.y), .c (.int .i64 n.p)] := rfl
theorem note_eql {M : Mem} {K : AV → Mem → Prop} {n m : NoteD} : aggBinK Try.prog 40 M [.c (.int .i64 n.ck), .c (.int .i64 n.t), .c (.int .i64 n.w), .c (.int .i64 n.a), .c (.int .i64 n.k), .c (.int .i64 n.y), .c (.int .i64 n.p)] [.c (.int .i64 m.ck), .c (.int .i64 m.t), .c (.int .i64 m.w), .c (.int .i64 m.a), .c (.int .i64 m.k), .c (.int .i64 m.y), .c (.int .i64 m.p)] K .eql = K (.c (.bool (decide (n = m)))) M :=
  agg_eql eqi_note (by decide) (by kernel_rfl) (l := noteL n) (m := noteL m) rfl rfl noteL_inj
theorem note_neq {M : Mem} {K : AV → Mem → Prop} {n m : NoteD} : aggBinK Try.prog 40 M [.c (.int .i64 n.ck), .c (.int .i64 n.t), .c (.int .i64 n.w), .c (.int .i64 n.a), .c (.int .i64 n.k), .c (.int .i64 n.y), .c (.int .i64 n.p)] [.c (.int .i64 m.ck), .c (.int .i64 m.t), .c (.int .i64 m.w), .c (.int .i64 m.a), .c (.int .i64 m.k), .c (.int .i64 m.y), .c (.int .i64 m.p)] K .neq = K (.c (.bool (!decide (n = m)))) M :=
  agg_neq eqi_note (by decide) (by kernel_rfl) (l := noteL n) (m := noteL m) rfl rfl noteL_inj
theorem note_eql0 {M : Mem} {K : AV → Mem → Prop} {n : NoteD} : aggBinK Try.prog 40 M [.c (.int .i64 n.ck), .c (.int .i64 n.t), .c (.int .i64 n.w), .c (.int .i64 n.a), .c (.int .i64 n.k), .c (.int .i64 n.y), .c (.int .i64 n.p)] [.c (.int .i64 0), .c (.int .i64 0), .c (.int .i64 0), .c (.int .i64 0), .c (.int .i64 0), .c (.int .i64 0), .c (.int .i64 0)] K .eql = K (.c (.bool (decide (n = note0)))) M :=
  note_eql (m := note0)
theorem note_neq0 {M : Mem} {K : AV → Mem → Prop} {n : NoteD} : aggBinK Try.prog 40 M [.c (.int .i64 n.ck), .c (.int .i64 n.t), .c (.int .i64 n.w), .c (.int .i64 n.a), .c (.int .i64 n.k), .c (.int .i64 n.y), .c (.int .i64 n.p)] [.c (.int .i64 0), .c (.int .i64 0), .c (.int .i64 0), .c (.int .i64 0), .c (.int .i64 0), .c (.int .i64 0), .c (.int .i64 0)] K .neq = K (.c (.bool (!decide (n = note0)))) M :=
  note_neq (m := note0)
def noteAt (l : List NoteD) (k : Nat) : NoteD := l.getD k note0
theorem elem_N {l : List NoteD} {i : Nat} {K : AV → Prop} : Elem (l.map NoteV) i K = (i < l.length ∧ K (NoteV (noteAt l i))) := elem_map _
theorem under_NoteV {k : Nat} (r : NoteD) : ∀ x ∈ (NoteV r).cells, Under k x := fun x hx => by
  simp only [NoteV, AV.cells, List.mem_cons, List.not_mem_nil, or_false] at hx
  rcases hx with rfl | rfl | rfl | rfl | rfl | rfl | rfl <;> exact .c _
theorem underL_N {k : Nat} {l : List NoteD} : UnderL k (l.map NoteV) = True := eq_true (underL_map k under_NoteV l)
theorem pureN (l : List NoteD) : PureL (l.map NoteV) := by rw [pureL_eq, underL_N]; trivial
theorem frz_N {M : Mem} {id : Nat} {l : List NoteD} : (l.map NoteV).map (frzE M id) = l.map NoteV := frz_data fun x hx => by
  obtain ⟨r, _, rfl⟩ := List.mem_map.1 hx
  rfl
theorem bok_N {M : Mem} {id : Nat} {l : List NoteD} : (∀ x ∈ l.map NoteV, ∀ c ∈ x.cells, FOk M id c) = True := eq_true fun x hx c hc => by
  obtain ⟨r, _, rfl⟩ := List.mem_map.1 hx
  simp only [NoteV, AV.cells, List.mem_cons, List.not_mem_nil, or_false] at hc
  rcases hc with rfl | rfl | rfl | rfl | rfl | rfl | rfl <;> trivial
def NotesV (l : List NoteD) : AV := .l 7 (l.map NoteV)
theorem arg_note {M : Mem} {ids : List Nat} {n : NoteD} : VOkA M (NoteV n) ∧ (∀ k ∈ idsA (NoteV n), k ∈ ids) ∧ Weak (viewA M (NoteV n)) (NoteV n) ∧ Under 0 (NoteV n) :=
  arg_pure ⟨argC_c, argC_c, argC_c, argC_c, argC_c, argC_c, argC_c, trivial⟩
theorem arg_notes {M : Mem} {ids : List Nat} {l : List NoteD} : VOkA M (.l 7 (l.map NoteV)) ∧ (∀ k ∈ idsA (.l 7 (l.map NoteV)), k ∈ ids) ∧ Weak (viewA M (.l 7 (l.map NoteV))) (.l 7 (l.map NoteV)) ∧ Under 0 (.l 7 (l.map NoteV)) := arg_l (pureN l)
theorem notes_ext {a b : List NoteD} (hl : a.length = b.length) (h : ∀ k, k < a.length → noteAt a k = noteAt b k) : a = b := by
  refine List.ext_getElem hl fun k h1 h2 => ?_
  have := h k h1
  rwa [noteAt, noteAt, List.getD_eq_getElem?_getD, List.getD_eq_getElem?_getD, List.getElem?_eq_getElem h1, List.getElem?_eq_getElem h2] at this
/-- A look. -/
def LookV (l : Int × Int) : AV := .g [.c (.int .i64 l.1), .c (.int .i64 l.2)]
theorem LookV_eq {l : Int × Int} : LookV l = .g [.c (.int .i64 l.1), .c (.int .i64 l.2)] := rfl
def lookAt (l : List (Int × Int)) (k : Nat) : Int × Int := l.getD k (0, 0)
theorem elem_K {l : List (Int × Int)} {i : Nat} {K : AV → Prop} : Elem (l.map LookV) i K = (i < l.length ∧ K (LookV (lookAt l i))) := elem_map _
theorem under_LookV {k : Nat} (r : Int × Int) : ∀ x ∈ (LookV r).cells, Under k x := fun x hx => by
  simp only [LookV, AV.cells, List.mem_cons, List.not_mem_nil, or_false] at hx
  rcases hx with rfl | rfl <;> exact .c _
theorem underL_K {k : Nat} {l : List (Int × Int)} : UnderL k (l.map LookV) = True := eq_true (underL_map k under_LookV l)
theorem pureK (l : List (Int × Int)) : PureL (l.map LookV) := by rw [pureL_eq, underL_K]; trivial
/-- A message. -/
structure MailD where
  f : Int
  o : Int
  ck : Int
  r : List RowD
  t : Int
  w : Int
  a : Int
  k : Int
  y : Int
  p : Int
  e : List (Int × Int)
  deriving Inhabited, DecidableEq
def MailV (m : MailD) : AV := .g [.c (.int .i64 m.f), .c (.int .i64 m.o), .c (.int .i64 m.ck), .l 3 (m.r.map RowV), .c (.int .i64 m.t), .c (.int .i64 m.w), .c (.int .i64 m.a), .c (.int .i64 m.k), .c (.int .i64 m.y), .c (.int .i64 m.p), .l 2 (m.e.map LookV)]
def MailD.note (m : MailD) : NoteD := ⟨m.ck, m.t, m.w, m.a, m.k, m.y, m.p⟩
theorem arg_mail {M : Mem} {ids : List Nat} {m : MailD} : VOkA M (MailV m) ∧ (∀ k ∈ idsA (MailV m), k ∈ ids) ∧ Weak (viewA M (MailV m)) (MailV m) ∧ Under 0 (MailV m) :=
  arg_pure ⟨argC_c, argC_c, argC_c, argC_l (pureR _), argC_c, argC_c, argC_c, argC_c, argC_c, argC_c, argC_l (pureK _), trivial⟩
/-- A first request; a look; a note. -/
def HeadOk (n who t w a : Int) : Prop := (t = 0 ∧ w = 0 ∧ a = 0) ∨ (MaySt t w n ∧ w = who ∧ 1 ≤ a ∧ a ≤ 1099511627776)
instance (n who t w a : Int) : Decidable (HeadOk n who t w a) := by unfold HeadOk; infer_instance
def LookOk (y p : Int) : Prop := (y = 0 ∧ p = 0) ∨ (1 ≤ y ∧ y ≤ 1125899906842624 ∧ (p = 1 ∨ p = 2))
instance (y p : Int) : Decidable (LookOk y p) := by unfold LookOk; infer_instance
def NoteOk (c : Conf) (who : Int) (n : NoteD) : Prop := (0 ≤ n.ck ∧ n.ck ≤ 1125899906842624) ∧ HeadOk c.n who n.t n.w n.a ∧ (0 ≤ n.k ∧ n.k ≤ c.r) ∧ LookOk n.y n.p
instance (c : Conf) (who : Int) (n : NoteD) : Decidable (NoteOk c who n) := by unfold NoteOk; infer_instance
def FromV (c : Conf) (k : Int) : AV := .g [.c (.int .i64 c.n), .c (.int .i64 c.q), .c (.int .i64 c.r), .c (.int .i64 c.p), .c (.int .i64 c.k), .c (.int .i64 c.c), .c (.int .i64 k)]
def ReqV (t w a : Int) : AV := .g [.c (.int .i64 t), .c (.int .i64 w), .c (.int .i64 a)]
theorem head_call (c : Conf) (who t w a : Int) : PCall Try.prog 55 [FromV c who, ReqV t w a] (.c (.bool (decide (HeadOk c.n who t w a)))) := by
  refine pcall_body tabOk Try.func55 rfl rfl (by rw [Try.ntmps55]; simp) ?_
  simp only [Try.ntmps55, FromV, ReqV]
  simp only [↓wt, wu, wk0, wk1, wk2, wk3, Nat.reduceAdd, Nat.reduceEqDiff, Nat.reduceLeDiff, Nat.reduceLT, Nat.reduceMul, Int.reduceLE, Int.reduceLT, Int.reduceEq, Int.reduceNe, wk4, laidS, keepS, req_eql]
  repeat' (first | (refine r_casesD (fun hp hb => ?_) (fun hp hb => ?_) <;> simp only [↓wt, wu, wk0, wk1, wk2, wk3, Nat.reduceAdd, Nat.reduceEqDiff, Nat.reduceLeDiff, Nat.reduceLT, Nat.reduceMul, Int.reduceLE, Int.reduceLT, Int.reduceEq, Int.reduceNe, wk4, laidS, keepS, req_eql, Try.results55, hb]) | (refine r_casesN (fun hp hb => ?_) (fun hp hb => ?_) <;> simp only [↓wt, wu, wk0, wk1, wk2, wk3, Nat.reduceAdd, Nat.reduceEqDiff, Nat.reduceLeDiff, Nat.reduceLT, Nat.reduceMul, Int.reduceLE, Int.reduceLT, Int.reduceEq, Int.reduceNe, wk4, laidS, keepS, req_eql, Try.results55, hb]) | (refine r_casesM (fun hp hb => ?_) (fun hp hb => ?_) <;> simp only [↓wt, wu, wk0, wk1, wk2, wk3, Nat.reduceAdd, Nat.reduceEqDiff, Nat.reduceLeDiff, Nat.reduceLT, Nat.reduceMul, Int.reduceLE, Int.reduceLT, Int.reduceEq, Int.reduceNe, wk4, laidS, keepS, req_eql, Try.results55, hb]) | (refine r_casesB (fun hp hb => ?_) (fun hp hb => ?_) <;> simp only [↓wt, wu, wk0, wk1, wk2, wk3, Nat.reduceAdd, Nat.reduceEqDiff, Nat.reduceLeDiff, Nat.reduceLT, Nat.reduceMul, Int.reduceLE, Int.reduceLT, Int.reduceEq, Int.reduceNe, wk4, laidS, keepS, req_eql, Try.results55, hb]) | (refine r_gcasesD (fun hp hb => ?_) (fun hp hb => ?_) <;> simp only [↓wt, wu, wk0, wk1, wk2, wk3, Nat.reduceAdd, Nat.reduceEqDiff, Nat.reduceLeDiff, Nat.reduceLT, Nat.reduceMul, Int.reduceLE, Int.reduceLT, Int.reduceEq, Int.reduceNe, wk4, laidS, keepS, req_eql, Try.results55, hb]) | (refine r_gcasesN (fun hp hb => ?_) (fun hp hb => ?_) <;> simp only [↓wt, wu, wk0, wk1, wk2, wk3, Nat.reduceAdd, Nat.reduceEqDiff, Nat.reduceLeDiff, Nat.reduceLT, Nat.reduceMul, Int.reduceLE, Int.reduceLT, Int.reduceEq, Int.reduceNe, wk4, laidS, keepS, req_eql, Try.results55, hb]) | (refine r_gcasesM (fun hp hb => ?_) (fun hp hb => ?_) <;> simp only [↓wt, wu, wk0, wk1, wk2, wk3, Nat.reduceAdd, Nat.reduceEqDiff, Nat.reduceLeDiff, Nat.reduceLT, Nat.reduceMul, Int.reduceLE, Int.reduceLT, Int.reduceEq, Int.reduceNe, wk4, laidS, keepS, req_eql, Try.results55, hb]) | (refine r_gcasesB (fun hp hb => ?_) (fun hp hb => ?_) <;> simp only [↓wt, wu, wk0, wk1, wk2, wk3, Nat.reduceAdd, Nat.reduceEqDiff, Nat.reduceLeDiff, Nat.reduceLT, Nat.reduceMul, Int.reduceLE, Int.reduceLT, Int.reduceEq, Int.reduceNe, wk4, laidS, keepS, req_eql, Try.results55, hb]) | ((with_reducible refine And.intro ?_ ?_); omega) | fail)
  · exact exp_bT (p := HeadOk c.n who t w a) (.inl hp)
  · refine icall_drop [] (stmay_call t w c.n) ⟨arg_st, arg_c, trivial⟩ (.c _) ?_
    simp only [↓wt, wu, wk0, wk1, wk2, wk3, Nat.reduceAdd, Nat.reduceEqDiff, Nat.reduceLeDiff, Nat.reduceLT, Nat.reduceMul, Int.reduceLE, Int.reduceLT, Int.reduceEq, Int.reduceNe, wk4, laidS, keepS]
    repeat' (first | (refine r_casesD (fun hp hb => ?_) (fun hp hb => ?_) <;> simp only [↓wt, wu, wk0, wk1, wk2, wk3, Nat.reduceAdd, Nat.reduceEqDiff, Nat.reduceLeDiff, Nat.reduceLT, Nat.reduceMul, Int.reduceLE, Int.reduceLT, Int.reduceEq, Int.reduceNe, wk4, laidS, keepS, Try.results55, hb]) | (refine r_casesN (fun hp hb => ?_) (fun hp hb => ?_) <;> simp only [↓wt, wu, wk0, wk1, wk2, wk3, Nat.reduceAdd, Nat.reduceEqDiff, Nat.reduceLeDiff, Nat.reduceLT, Nat.reduceMul, Int.reduceLE, Int.reduceLT, Int.reduceEq, Int.reduceNe, wk4, laidS, keepS, Try.results55, hb]) | (refine r_casesM (fun hp hb => ?_) (fun hp hb => ?_) <;> simp only [↓wt, wu, wk0, wk1, wk2, wk3, Nat.reduceAdd, Nat.reduceEqDiff, Nat.reduceLeDiff, Nat.reduceLT, Nat.reduceMul, Int.reduceLE, Int.reduceLT, Int.reduceEq, Int.reduceNe, wk4, laidS, keepS, Try.results55, hb]) | (refine r_casesB (fun hp hb => ?_) (fun hp hb => ?_) <;> simp only [↓wt, wu, wk0, wk1, wk2, wk3, Nat.reduceAdd, Nat.reduceEqDiff, Nat.reduceLeDiff, Nat.reduceLT, Nat.reduceMul, Int.reduceLE, Int.reduceLT, Int.reduceEq, Int.reduceNe, wk4, laidS, keepS, Try.results55, hb]) | (refine r_gcasesD (fun hp hb => ?_) (fun hp hb => ?_) <;> simp only [↓wt, wu, wk0, wk1, wk2, wk3, Nat.reduceAdd, Nat.reduceEqDiff, Nat.reduceLeDiff, Nat.reduceLT, Nat.reduceMul, Int.reduceLE, Int.reduceLT, Int.reduceEq, Int.reduceNe, wk4, laidS, keepS, Try.results55, hb]) | (refine r_gcasesN (fun hp hb => ?_) (fun hp hb => ?_) <;> simp only [↓wt, wu, wk0, wk1, wk2, wk3, Nat.reduceAdd, Nat.reduceEqDiff, Nat.reduceLeDiff, Nat.reduceLT, Nat.reduceMul, Int.reduceLE, Int.reduceLT, Int.reduceEq, Int.reduceNe, wk4, laidS, keepS, Try.results55, hb]) | (refine r_gcasesM (fun hp hb => ?_) (fun hp hb => ?_) <;> simp only [↓wt, wu, wk0, wk1, wk2, wk3, Nat.reduceAdd, Nat.reduceEqDiff, Nat.reduceLeDiff, Nat.reduceLT, Nat.reduceMul, Int.reduceLE, Int.reduceLT, Int.reduceEq, Int.reduceNe, wk4, laidS, keepS, Try.results55, hb]) | (refine r_gcasesB (fun hp hb => ?_) (fun hp hb => ?_) <;> simp only [↓wt, wu, wk0, wk1, wk2, wk3, Nat.reduceAdd, Nat.reduceEqDiff, Nat.reduceLeDiff, Nat.reduceLT, Nat.reduceMul, Int.reduceLE, Int.reduceLT, Int.reduceEq, Int.reduceNe, wk4, laidS, keepS, Try.results55, hb]) | ((with_reducible refine And.intro ?_ ?_); omega) | fail)
    all_goals simp only [MaySt] at *
    all_goals first | exact exp_bE (by unfold HeadOk MaySt; omega) | exact exp_bF (p := HeadOk c.n who t w a) (by unfold HeadOk MaySt; omega)
theorem look_call (y p : Int) : PCall Try.prog 46 [LookV (y, p)] (.c (.bool (decide (LookOk y p)))) := by
  refine pcall_body tabOk Try.func46 rfl rfl (by rw [Try.ntmps46]; simp) ?_
  simp only [Try.ntmps46, LookV]
  simp only [↓wt, wu, wk0, wk1, wk2, wk3, Nat.reduceAdd, Nat.reduceEqDiff, Nat.reduceLeDiff, Nat.reduceLT, Nat.reduceMul, Int.reduceLE, Int.reduceLT, Int.reduceEq, Int.reduceNe, wk4, laidS, keepS, look_eql]
  repeat' (first | (refine r_casesD (fun hp hb => ?_) (fun hp hb => ?_) <;> simp only [↓wt, wu, wk0, wk1, wk2, wk3, Nat.reduceAdd, Nat.reduceEqDiff, Nat.reduceLeDiff, Nat.reduceLT, Nat.reduceMul, Int.reduceLE, Int.reduceLT, Int.reduceEq, Int.reduceNe, wk4, laidS, keepS, look_eql, Try.results46, hb]) | (refine r_casesN (fun hp hb => ?_) (fun hp hb => ?_) <;> simp only [↓wt, wu, wk0, wk1, wk2, wk3, Nat.reduceAdd, Nat.reduceEqDiff, Nat.reduceLeDiff, Nat.reduceLT, Nat.reduceMul, Int.reduceLE, Int.reduceLT, Int.reduceEq, Int.reduceNe, wk4, laidS, keepS, look_eql, Try.results46, hb]) | (refine r_casesM (fun hp hb => ?_) (fun hp hb => ?_) <;> simp only [↓wt, wu, wk0, wk1, wk2, wk3, Nat.reduceAdd, Nat.reduceEqDiff, Nat.reduceLeDiff, Nat.reduceLT, Nat.reduceMul, Int.reduceLE, Int.reduceLT, Int.reduceEq, Int.reduceNe, wk4, laidS, keepS, look_eql, Try.results46, hb]) | (refine r_casesB (fun hp hb => ?_) (fun hp hb => ?_) <;> simp only [↓wt, wu, wk0, wk1, wk2, wk3, Nat.reduceAdd, Nat.reduceEqDiff, Nat.reduceLeDiff, Nat.reduceLT, Nat.reduceMul, Int.reduceLE, Int.reduceLT, Int.reduceEq, Int.reduceNe, wk4, laidS, keepS, look_eql, Try.results46, hb]) | (refine r_gcasesD (fun hp hb => ?_) (fun hp hb => ?_) <;> simp only [↓wt, wu, wk0, wk1, wk2, wk3, Nat.reduceAdd, Nat.reduceEqDiff, Nat.reduceLeDiff, Nat.reduceLT, Nat.reduceMul, Int.reduceLE, Int.reduceLT, Int.reduceEq, Int.reduceNe, wk4, laidS, keepS, look_eql, Try.results46, hb]) | (refine r_gcasesN (fun hp hb => ?_) (fun hp hb => ?_) <;> simp only [↓wt, wu, wk0, wk1, wk2, wk3, Nat.reduceAdd, Nat.reduceEqDiff, Nat.reduceLeDiff, Nat.reduceLT, Nat.reduceMul, Int.reduceLE, Int.reduceLT, Int.reduceEq, Int.reduceNe, wk4, laidS, keepS, look_eql, Try.results46, hb]) | (refine r_gcasesM (fun hp hb => ?_) (fun hp hb => ?_) <;> simp only [↓wt, wu, wk0, wk1, wk2, wk3, Nat.reduceAdd, Nat.reduceEqDiff, Nat.reduceLeDiff, Nat.reduceLT, Nat.reduceMul, Int.reduceLE, Int.reduceLT, Int.reduceEq, Int.reduceNe, wk4, laidS, keepS, look_eql, Try.results46, hb]) | (refine r_gcasesB (fun hp hb => ?_) (fun hp hb => ?_) <;> simp only [↓wt, wu, wk0, wk1, wk2, wk3, Nat.reduceAdd, Nat.reduceEqDiff, Nat.reduceLeDiff, Nat.reduceLT, Nat.reduceMul, Int.reduceLE, Int.reduceLT, Int.reduceEq, Int.reduceNe, wk4, laidS, keepS, look_eql, Try.results46, hb]) | ((with_reducible refine And.intro ?_ ?_); omega) | fail)
  all_goals first | exact exp_bT (p := LookOk y p) (by unfold LookOk; omega) | exact exp_bE (by unfold LookOk; omega) | exact exp_bF (p := LookOk y p) (by unfold LookOk; omega)
end Go.Ab
