/- Structs of whole numbers are compared: looks, stamps, requests, notes. Paint: what is taken: numbers, so many of them. Paint: what is taken: the books with which bytes begin, or none (plain laws). -/
import Derived.Test.YtcikejikpnjilaaTCl1
import Derived.Test.YtcikejikpnjilaaTRt15
import Derived.Test.YtcikejikpnjilaaTRt8
import Derived.Test.YtcikejikpnjilaaAbG9
import Derived.Test.YtcikejikpnjilaaTRt12
set_option linter.unusedSimpArgs false
set_option linter.unusedVariables false
set_option linter.constructorNameAsVariable false
set_option maxRecDepth 100000
namespace Go.Ab
open Go Go.Proofs Go.RowKit

theorem eqi_look : EqI Try.prog 2 32 2 :=
  EqI.of (D := 0) Try.underlying32 (by kernel_rfl) (.int (by decide) rfl Try.underlying2 (.int (by decide) rfl Try.underlying3 .nil))
theorem eqi_stamp : EqI Try.prog 2 28 2 :=
  EqI.of (D := 0) Try.underlying28 (by kernel_rfl) (.int (by decide) rfl Try.underlying2 (.int (by decide) rfl Try.underlying3 .nil))
theorem eqi_request : EqI Try.prog 3 30 3 :=
  EqI.of (D := 1) Try.underlying30 (by kernel_rfl) (.st (m := 2) (by decide) rfl ti28 rfl rfl eqi_stamp (.int (by decide) rfl Try.underlying2 .nil))
theorem look_eql {M : Mem} {K : AV → Mem → Prop} {a b c d : Int} : aggBinK Try.prog 32 M [.c (.int .i64 a), .c (.int .i64 b)] [.c (.int .i64 c), .c (.int .i64 d)] K .eql = K (.c (.bool (decide (a = c ∧ b = d)))) M :=
  agg_eql eqi_look (by decide) (by kernel_rfl) (l := [a, b]) (m := [c, d]) rfl rfl (by simp)
theorem look_neq {M : Mem} {K : AV → Mem → Prop} {a b c d : Int} : aggBinK Try.prog 32 M [.c (.int .i64 a), .c (.int .i64 b)] [.c (.int .i64 c), .c (.int .i64 d)] K .neq = K (.c (.bool (!decide (a = c ∧ b = d)))) M :=
  agg_neq eqi_look (by decide) (by kernel_rfl) (l := [a, b]) (m := [c, d]) rfl rfl (by simp)
theorem req_eql {M : Mem} {K : AV → Mem → Prop} {a b e c d f : Int} : aggBinK Try.prog 30 M [.c (.int .i64 a), .c (.int .i64 b), .c (.int .i64 e)] [.c (.int .i64 c), .c (.int .i64 d), .c (.int .i64 f)] K .eql = K (.c (.bool (decide (a = c ∧ b = d ∧ e = f)))) M :=
  agg_eql eqi_request (by decide) (by kernel_rfl) (l := [a, b, e]) (m := [c, d, f]) rfl rfl (by simp)
/-- A note. -/
structure NoteD where
  ck : Int
  t : Int
  w : Int
  a : Int
  k : Int
  y : Int
  p : Int
  deriving Inhabited, DecidableEq
def note0 : NoteD := ⟨0, 0, 0, 0, 0, 0, 0⟩
def NoteV (n : NoteD) : AV := .g [.c (.int .i64 n.ck), .c (.int .i64 n.t), .c (.int .i64 n.w), .c (.int .i64 n.a), .c (.int .i64 n.k), .c (.int .i64 n.y), .c (.int .i64 n.p)]
def noteAt (l : List NoteD) (k : Nat) : NoteD := l.getD k note0
/-- A look. -/
def LookV (l : Int × Int) : AV := .g [.c (.int .i64 l.1), .c (.int .i64 l.2)]
theorem LookV_eq {l : Int × Int} : LookV l = .g [.c (.int .i64 l.1), .c (.int .i64 l.2)] := rfl
def lookAt (l : List (Int × Int)) (k : Nat) : Int × Int := l.getD k (0, 0)
theorem elem_K {l : List (Int × Int)} {i : Nat} {K : AV → Prop} : Elem (l.map LookV) i K = (i < l.length ∧ K (LookV (lookAt l i))) := elem_map _
theorem under_LookV {k : Nat} (r : Int × Int) : ∀ x ∈ (LookV r).cells, Under k x := fun x hx => by
  simp only [LookV, AV.cells, List.mem_cons, List.not_mem_nil, or_false] at hx
  rcases hx with rfl | rfl <;> exact .c _
theorem underL_K {k : Nat} {l : List (Int × Int)} : UnderL k (l.map LookV) = True := eq_true (underL_map k under_LookV l)
theorem pureK (l : List (Int × Int)) : PureL (l.map LookV) := by rw [pureL_eq, underL_K]; trivial
/-- A message. -/
structure MailD where
  f : Int
  o : Int
  ck : Int
  r : List RowD
  t : Int
  w : Int
  a : Int
  k : Int
  y : Int
  p : Int
  e : List (Int × Int)
  deriving Inhabited, DecidableEq
def MailV (m : MailD) : AV := .g [.c (.int .i64 m.f), .c (.int .i64 m.o), .c (.int .i64 m.ck), .l 3 (m.r.map RowV), .c (.int .i64 m.t), .c (.int .i64 m.w), .c (.int .i64 m.a), .c (.int .i64 m.k), .c (.int .i64 m.y), .c (.int .i64 m.p), .l 2 (m.e.map LookV)]
def MailD.note (m : MailD) : NoteD := ⟨m.ck, m.t, m.w, m.a, m.k, m.y, m.p⟩
theorem arg_mail {M : Mem} {ids : List Nat} {m : MailD} : VOkA M (MailV m) ∧ (∀ k ∈ idsA (MailV m), k ∈ ids) ∧ Weak (viewA M (MailV m)) (MailV m) ∧ Under 0 (MailV m) :=
  arg_pure ⟨argC_c, argC_c, argC_c, argC_l (pureR _), argC_c, argC_c, argC_c, argC_c, argC_c, argC_c, argC_l (pureK _), trivial⟩
/-- A first request; a look; a note. -/
def HeadOk (n who t w a : Int) : Prop := (t = 0 ∧ w = 0 ∧ a = 0) ∨ (MaySt t w n ∧ w = who ∧ 1 ≤ a ∧ a ≤ 1099511627776)
instance (n who t w a : Int) : Decidable (HeadOk n who t w a) := by unfold HeadOk; infer_instance
def LookOk (y p : Int) : Prop := (y = 0 ∧ p = 0) ∨ (1 ≤ y ∧ y ≤ 1125899906842624 ∧ (p = 1 ∨ p = 2))
instance (y p : Int) : Decidable (LookOk y p) := by unfold LookOk; infer_instance
def NoteOk (c : Conf) (who : Int) (n : NoteD) : Prop := (0 ≤ n.ck ∧ n.ck ≤ 1125899906842624) ∧ HeadOk c.n who n.t n.w n.a ∧ (0 ≤ n.k ∧ n.k ≤ c.r) ∧ LookOk n.y n.p
instance (c : Conf) (who : Int) (n : NoteD) : Decidable (NoteOk c who n) := by unfold NoteOk; infer_instance
def FromV (c : Conf) (k : Int) : AV := .g [.c (.int .i64 c.n), .c (.int .i64 c.q), .c (.int .i64 c.r), .c (.int .i64 c.p), .c (.int .i64 c.k), .c (.int .i64 c.c), .c (.int .i64 k)]
def ReqV (t w a : Int) : AV := .g [.c (.int .i64 t), .c (.int .i64 w), .c (.int .i64 a)]
theorem head_call (c : Conf) (who t w a : Int) : PCall Try.prog 56 [FromV c who, ReqV t w a] (.c (.bool (decide (HeadOk c.n who t w a)))) := by
  refine pcall_body tabOk Try.func56 rfl rfl (by rw [Try.ntmps56]; simp) ?_
  simp only [Try.ntmps56, FromV, ReqV]
  simp only [↓wt, wu, wk0, wk1, wk2, wk3, Nat.reduceAdd, Nat.reduceEqDiff, Nat.reduceLeDiff, Nat.reduceLT, Nat.reduceMul, Int.reduceLE, Int.reduceLT, Int.reduceEq, Int.reduceNe, wk4, laidS, keepS, req_eql]
  repeat' (first | (refine r_casesD (fun hp hb => ?_) (fun hp hb => ?_) <;> simp only [↓wt, wu, wk0, wk1, wk2, wk3, Nat.reduceAdd, Nat.reduceEqDiff, Nat.reduceLeDiff, Nat.reduceLT, Nat.reduceMul, Int.reduceLE, Int.reduceLT, Int.reduceEq, Int.reduceNe, wk4, laidS, keepS, req_eql, Try.results56, hb]) | (refine r_casesN (fun hp hb => ?_) (fun hp hb => ?_) <;> simp only [↓wt, wu, wk0, wk1, wk2, wk3, Nat.reduceAdd, Nat.reduceEqDiff, Nat.reduceLeDiff, Nat.reduceLT, Nat.reduceMul, Int.reduceLE, Int.reduceLT, Int.reduceEq, Int.reduceNe, wk4, laidS, keepS, req_eql, Try.results56, hb]) | (refine r_casesM (fun hp hb => ?_) (fun hp hb => ?_) <;> simp only [↓wt, wu, wk0, wk1, wk2, wk3, Nat.reduceAdd, Nat.reduceEqDiff, Nat.reduceLeDiff, Nat.reduceLT, Nat.reduceMul, Int.reduceLE, Int.reduceLT, Int.reduceEq, Int.reduceNe, wk4, laidS, keepS, req_eql, Try.results56, hb]) | (refine r_casesB (fun hp hb => ?_) (fun hp hb => ?_) <;> simp only [↓wt, wu, wk0, wk1, wk2, wk3, Nat.reduceAdd, Nat.reduceEqDiff, Nat.reduceLeDiff, Nat.reduceLT, Nat.reduceMul, Int.reduceLE, Int.reduceLT, Int.reduceEq, Int.reduceNe, wk4, laidS, keepS, req_eql, Try.results56, hb]) | (refine r_gcasesD (fun hp hb => ?_) (fun hp hb => ?_) <;> simp only [↓wt, wu, wk0, wk1, wk2, wk3, Nat.reduceAdd, Nat.reduceEqDiff, Nat.reduceLeDiff, Nat.reduceLT, Nat.reduceMul, Int.reduceLE, Int.reduceLT, Int.reduceEq, Int.reduceNe, wk4, laidS, keepS, req_eql, Try.results56, hb]) | (refine r_gcasesN (fun hp hb => ?_) (fun hp hb => ?_) <;> simp only [↓wt, wu, wk0, wk1, wk2, wk3, Nat.reduceAdd, Nat.reduceEqDiff, Nat.reduceLeDiff, Nat.reduceLT, Nat.reduceMul, Int.reduceLE, Int.reduceLT, Int.reduceEq, Int.reduceNe, wk4, laidS, keepS, req_eql, Try.results56, hb]) | (refine r_gcasesM (fun hp hb => ?_) (fun hp hb => ?_) <;> simp only [↓wt, wu, wk0, wk1, wk2, wk3, Nat.reduceAdd, Nat.reduceEqDiff, Nat.reduceLeDiff, Nat.reduceLT, Nat.reduceMul, Int.reduceLE, Int.reduceLT, Int.reduceEq, Int.reduceNe, wk4, laidS, keepS, req_eql, Try.results56, hb]) | (refine r_gcasesB (fun hp hb => ?_) (fun hp hb => ?_) <;> simp only [↓wt, wu, wk0, wk1, wk2, wk3, Nat.reduceAdd, Nat.reduceEqDiff, Nat.reduceLeDiff, Nat.reduceLT, Nat.reduceMul, Int.reduceLE, Int.reduceLT, Int.reduceEq, Int.reduceNe, wk4, laidS, keepS, req_eql, Try.results56, hb]) | ((with_reducible refine And.intro ?_ ?_); omega) | fail)
  · exact exp_bT (p := HeadOk c.n who t w a) (.inl hp)
  · refine icall_drop [] (stmay_call t w c.n) ⟨arg_st, arg_c, trivial⟩ (.c _) ?_
    simp only [↓wt, wu, wk0, wk1, wk2, wk3, Nat.reduceAdd, Nat.reduceEqDiff, Nat.reduceLeDiff, Nat.reduceLT, Nat.reduceMul, Int.reduceLE, Int.reduceLT, Int.reduceEq, Int.reduceNe, wk4, laidS, keepS]
    repeat' (first | (refine r_casesD (fun hp hb => ?_) (fun hp hb => ?_) <;> simp only [↓wt, wu, wk0, wk1, wk2, wk3, Nat.reduceAdd, Nat.reduceEqDiff, Nat.reduceLeDiff, Nat.reduceLT, Nat.reduceMul, Int.reduceLE, Int.reduceLT, Int.reduceEq, Int.reduceNe, wk4, laidS, keepS, Try.results56, hb]) | (refine r_casesN (fun hp hb => ?_) (fun hp hb => ?_) <;> simp only [↓wt, wu, wk0, wk1, wk2, wk3, Nat.reduceAdd, Nat.reduceEqDiff, Nat.reduceLeDiff, Nat.reduceLT, Nat.reduceMul, Int.reduceLE, Int.reduceLT, Int.reduceEq, Int.reduceNe, wk4, laidS, keepS, Try.results56, hb]) | (refine r_casesM (fun hp hb => ?_) (fun hp hb => ?_) <;> simp only [↓wt, wu, wk0, wk1, wk2, wk3, Nat.reduceAdd, Nat.reduceEqDiff, Nat.reduceLeDiff, Nat.reduceLT, Nat.reduceMul, Int.reduceLE, Int.reduceLT, Int.reduceEq, Int.reduceNe, wk4, laidS, keepS, Try.results56, hb]) | (refine r_casesB (fun hp hb => ?_) (fun hp hb => ?_) <;> simp only [↓wt, wu, wk0, wk1, wk2, wk3, Nat.reduceAdd, Nat.reduceEqDiff, Nat.reduceLeDiff, Nat.reduceLT, Nat.reduceMul, Int.reduceLE, Int.reduceLT, Int.reduceEq, Int.reduceNe, wk4, laidS, keepS, Try.results56, hb]) | (refine r_gcasesD (fun hp hb => ?_) (fun hp hb => ?_) <;> simp only [↓wt, wu, wk0, wk1, wk2, wk3, Nat.reduceAdd, Nat.reduceEqDiff, Nat.reduceLeDiff, Nat.reduceLT, Nat.reduceMul, Int.reduceLE, Int.reduceLT, Int.reduceEq, Int.reduceNe, wk4, laidS, keepS, Try.results56, hb]) | (refine r_gcasesN (fun hp hb => ?_) (fun hp hb => ?_) <;> simp only [↓wt, wu, wk0, wk1, wk2, wk3, Nat.reduceAdd, Nat.reduceEqDiff, Nat.reduceLeDiff, Nat.reduceLT, Nat.reduceMul, Int.reduceLE, Int.reduceLT, Int.reduceEq, Int.reduceNe, wk4, laidS, keepS, Try.results56, hb]) | (refine r_gcasesM (fun hp hb => ?_) (fun hp hb => ?_) <;> simp only [↓wt, wu, wk0, wk1, wk2, wk3, Nat.reduceAdd, Nat.reduceEqDiff, Nat.reduceLeDiff, Nat.reduceLT, Nat.reduceMul, Int.reduceLE, Int.reduceLT, Int.reduceEq, Int.reduceNe, wk4, laidS, keepS, Try.results56, hb]) | (refine r_gcasesB (fun hp hb => ?_) (fun hp hb => ?_) <;> simp only [↓wt, wu, wk0, wk1, wk2, wk3, Nat.reduceAdd, Nat.reduceEqDiff, Nat.reduceLeDiff, Nat.reduceLT, Nat.reduceMul, Int.reduceLE, Int.reduceLT, Int.reduceEq, Int.reduceNe, wk4, laidS, keepS, Try.results56, hb]) | ((with_reducible refine And.intro ?_ ?_); omega) | fail)
    all_goals simp only [MaySt] at *
    all_goals first | exact exp_bE (by unfold HeadOk MaySt; omega) | exact exp_bF (p := HeadOk c.n who t w a) (by unfold HeadOk MaySt; omega)
theorem look_call (y p : Int) : PCall Try.prog 37 [LookV (y, p)] (.c (.bool (decide (LookOk y p)))) := by
  refine pcall_body tabOk Try.func37 rfl rfl (by rw [Try.ntmps37]; simp) ?_
  simp only [Try.ntmps37, LookV]
  simp only [↓wt, wu, wk0, wk1, wk2, wk3, Nat.reduceAdd, Nat.reduceEqDiff, Nat.reduceLeDiff, Nat.reduceLT, Nat.reduceMul, Int.reduceLE, Int.reduceLT, Int.reduceEq, Int.reduceNe, wk4, laidS, keepS, look_eql]
  repeat' (first | (refine r_casesD (fun hp hb => ?_) (fun hp hb => ?_) <;> simp only [↓wt, wu, wk0, wk1, wk2, wk3, Nat.reduceAdd, Nat.reduceEqDiff, Nat.reduceLeDiff, Nat.reduceLT, Nat.reduceMul, Int.reduceLE, Int.reduceLT, Int.reduceEq, Int.reduceNe, wk4, laidS, keepS, look_eql, Try.results37, hb]) | (refine r_casesN (fun hp hb => ?_) (fun hp hb => ?_) <;> simp only [↓wt, wu, wk0, wk1, wk2, wk3, Nat.reduceAdd, Nat.reduceEqDiff, Nat.reduceLeDiff, Nat.reduceLT, Nat.reduceMul, Int.reduceLE, Int.reduceLT, Int.reduceEq, Int.reduceNe, wk4, laidS, keepS, look_eql, Try.results37, hb]) | (refine r_casesM (fun hp hb => ?_) (fun hp hb => ?_) <;> simp only [↓wt, wu, wk0, wk1, wk2, wk3, Nat.reduceAdd, Nat.reduceEqDiff, Nat.reduceLeDiff, Nat.reduceLT, Nat.reduceMul, Int.reduceLE, Int.reduceLT, Int.reduceEq, Int.reduceNe, wk4, laidS, keepS, look_eql, Try.results37, hb]) | (refine r_casesB (fun hp hb => ?_) (fun hp hb => ?_) <;> simp only [↓wt, wu, wk0, wk1, wk2, wk3, Nat.reduceAdd, Nat.reduceEqDiff, Nat.reduceLeDiff, Nat.reduceLT, Nat.reduceMul, Int.reduceLE, Int.reduceLT, Int.reduceEq, Int.reduceNe, wk4, laidS, keepS, look_eql, Try.results37, hb]) | (refine r_gcasesD (fun hp hb => ?_) (fun hp hb => ?_) <;> simp only [↓wt, wu, wk0, wk1, wk2, wk3, Nat.reduceAdd, Nat.reduceEqDiff, Nat.reduceLeDiff, Nat.reduceLT, Nat.reduceMul, Int.reduceLE, Int.reduceLT, Int.reduceEq, Int.reduceNe, wk4, laidS, keepS, look_eql, Try.results37, hb]) | (refine r_gcasesN (fun hp hb => ?_) (fun hp hb => ?_) <;> simp only [↓wt, wu, wk0, wk1, wk2, wk3, Nat.reduceAdd, Nat.reduceEqDiff, Nat.reduceLeDiff, Nat.reduceLT, Nat.reduceMul, Int.reduceLE, Int.reduceLT, Int.reduceEq, Int.reduceNe, wk4, laidS, keepS, look_eql, Try.results37, hb]) | (refine r_gcasesM (fun hp hb => ?_) (fun hp hb => ?_) <;> simp only [↓wt, wu, wk0, wk1, wk2, wk3, Nat.reduceAdd, Nat.reduceEqDiff, Nat.reduceLeDiff, Nat.reduceLT, Nat.reduceMul, Int.reduceLE, Int.reduceLT, Int.reduceEq, Int.reduceNe, wk4, laidS, keepS, look_eql, Try.results37, hb]) | (refine r_gcasesB (fun hp hb => ?_) (fun hp hb => ?_) <;> simp only [↓wt, wu, wk0, wk1, wk2, wk3, Nat.reduceAdd, Nat.reduceEqDiff, Nat.reduceLeDiff, Nat.reduceLT, Nat.reduceMul, Int.reduceLE, Int.reduceLT, Int.reduceEq, Int.reduceNe, wk4, laidS, keepS, look_eql, Try.results37, hb]) | ((with_reducible refine And.intro ?_ ?_); omega) | fail)
  all_goals first | exact exp_bT (p := LookOk y p) (by unfold LookOk; omega) | exact exp_bE (by unfold LookOk; omega) | exact exp_bF (p := LookOk y p) (by unfold LookOk; omega)
end Go.Ab

set_option linter.unusedSimpArgs false
set_option linter.unusedVariables false
set_option linter.constructorNameAsVariable false
set_option maxRecDepth 100000
namespace Go.Ab
open Go Go.Proofs Go.RowKit

/-- What is taken, as a function. -/
noncomputable def tk (b : List UInt8) : Nat × List UInt8 × Bool :=
  ⟨Classical.choose (takeIs_ex b), Classical.choose (Classical.choose_spec (takeIs_ex b)), Classical.choose (Classical.choose_spec (Classical.choose_spec (takeIs_ex b)))⟩
theorem tk_is (b : List UInt8) : TakeIs b (tk b).1 (tk b).2.1 (tk b).2.2 := Classical.choose_spec (Classical.choose_spec (Classical.choose_spec (takeIs_ex b)))
theorem tk_len (b : List UInt8) : (tk b).2.1.length ≤ b.length := by
  rcases tk_is b with ⟨_, _, h⟩ | ⟨_, _, h, _⟩
  · have := congrArg List.length h
    rw [List.length_append] at this; omega
  · rw [h]; simp
theorem okR_take {a : Value} {r : List UInt8} {c : Value} : OkR (Under 0) (.t [.c a, Bs r, .c c]) := ⟨.c _, .l _ _ (pureB _), .c _, trivial⟩
theorem exp_tk {M : Mem} {a c : Value} {r : List UInt8} : Exp M (.t [.c a, .l 1 (r.map encB), .c c]) (.t [.c a, .l 1 (r.map encB), .c c]) := exp_tA (xT_cons xA_c (xT_cons (xA_pure weak_l (.l _ _ (pureB _))) (xT_cons xA_c xT_nil)))
abbrev M63 : Nat := 9223372036854775808
/-- A number that isn't above a bound. -/
noncomputable def num (B : Nat) (b : List UInt8) : Int × List UInt8 × Bool := ⟨IntKind.i64.wrap ((tk b).1 : Int), (tk b).2.1, (tk b).2.2 && decide ((tk b).1 < B)⟩
theorem number_call (b : List UInt8) (hl : b.length ≤ 1000000000) : PCall Try.prog 52 [Bs b] (.t [.c (.int .i64 (num M63 b).1), Bs (num M63 b).2.1, .c (.bool (num M63 b).2.2)]) := by
  have m1 := ntake_call b hl (tk_is b)
  refine pcall_body tabOk Try.func52 rfl rfl (by rw [Try.ntmps52]; simp) ?_
  simp only [Try.ntmps52, Bs]
  simp only [↓wt, wu, wk0, wk1, wk2, wk3, Nat.reduceAdd, Nat.reduceEqDiff, Nat.reduceLeDiff, Nat.reduceLT, Nat.reduceMul, Int.reduceLE, Int.reduceLT, Int.reduceEq, Int.reduceNe, wk4, laidS, keepS]
  refine icall_drop [] m1 ⟨arg_l (pureB _), trivial⟩ okR_take ?_
  simp only [↓wt, wu, wk0, wk1, wk2, wk3, Nat.reduceAdd, Nat.reduceEqDiff, Nat.reduceLeDiff, Nat.reduceLT, Nat.reduceMul, Int.reduceLE, Int.reduceLT, Int.reduceEq, Int.reduceNe, wk4, laidS, keepS, Bs]
  have e : decide ((((tk b).1 : Nat) : Int) < 9223372036854775808) = decide ((tk b).1 < 9223372036854775808) := decide_eq_decide.2 (by omega)
  cases ho : (tk b).2.2
  · simp only [↓wt, wu, wk0, wk1, wk2, wk3, Nat.reduceAdd, Nat.reduceEqDiff, Nat.reduceLeDiff, Nat.reduceLT, Nat.reduceMul, Int.reduceLE, Int.reduceLT, Int.reduceEq, Int.reduceNe, wk4, laidS, keepS, ho, Try.results52]
    simp only [num, ho, Bool.false_and]
    exact exp_tk
  · simp only [↓wt, wu, wk0, wk1, wk2, wk3, Nat.reduceAdd, Nat.reduceEqDiff, Nat.reduceLeDiff, Nat.reduceLT, Nat.reduceMul, Int.reduceLE, Int.reduceLT, Int.reduceEq, Int.reduceNe, wk4, laidS, keepS, ho, Try.results52]
    simp only [num, ho, Bool.true_and, e]
    exact exp_tk
/-- So many, one behind the other, up to the first that is none. -/
def manyL {α : Type} (take : List UInt8 → α × List UInt8 × Bool) : Nat → List UInt8 → List α × List UInt8
  | 0, b => ([], b)
  | n + 1, b => if (take b).2.2 then ((take b).1 :: (manyL take n (take b).2.1).1, (manyL take n (take b).2.1).2) else ([], b)
inductive Tk {α : Type} (take : List UInt8 → α × List UInt8 × Bool) (b : List UInt8) : List α → List UInt8 → Prop
  | nil : Tk take b [] b
  | snoc {xs : List α} {r : List UInt8} (h : Tk take b xs r) (ho : (take r).2.2 = true) : Tk take b (xs ++ [(take r).1]) (take r).2.1
theorem Tk.many {α : Type} {take : List UInt8 → α × List UInt8 × Bool} {b : List UInt8} {xs : List α} {r : List UInt8} (h : Tk take b xs r) : ∀ m, manyL take (xs.length + m) b = (xs ++ (manyL take m r).1, (manyL take m r).2) := by
  induction h with
  | nil => intro m; simp
  | snoc h ho ih =>
    rename_i xs r
    intro m
    have := ih (m + 1)
    rw [List.length_append, List.length_singleton, Nat.add_assoc, Nat.add_comm 1 m, this]
    simp only [manyL, ho, if_true, List.append_assoc, List.singleton_append]
theorem manyL_len {α : Type} {take : List UInt8 → α × List UInt8 × Bool} : ∀ n b, (manyL take n b).1.length ≤ n
  | 0, b => by simp [manyL]
  | n + 1, b => by
    simp only [manyL]
    split
    · have := manyL_len (take := take) n (take b).2.1
      simp; omega
    · simp
theorem num_len {B : Nat} (b : List UInt8) : (num B b).2.1.length ≤ b.length := tk_len b
theorem Tk.len {α : Type} {take : List UInt8 → α × List UInt8 × Bool} (ht : ∀ b, (take b).2.1.length ≤ b.length) {b : List UInt8} {xs : List α} {r : List UInt8} (h : Tk take b xs r) : r.length ≤ b.length := by
  induction h with
  | nil => exact Nat.le_refl _
  | snoc h ho ih => exact Nat.le_trans (ht _) ih
theorem exp_many3 {T : TypeId} {xs : List Int} {r : List UInt8} {b c : Bool} (hc : b = c) : Exp ⟨[(0, ⟨T, 1, xs.map encI⟩)], 1⟩ (.t [.s 0 0 xs.length, .l 1 (r.map encB), .c (.bool b)]) (.t [.l 1 (xs.map encI), .l 1 (r.map encB), .c (.bool c)]) := by
  subst hc
  exact exp_tA (xT_cons (xA_frz (off := 0) rfl (by simp) rfl (pureI _)) (xT_cons (xA_pure weak_l (.l _ _ (pureB _))) (xT_cons xA_c xT_nil)))
theorem manyI_call (b : List UInt8) (n : Nat) (hl : b.length ≤ 1000000000) (hn : n ≤ 1000) :
    PCall Try.prog 51 [Bs b, .c (.int .i64 n), .f 52 []] (.t [.l 1 ((manyL (num M63) n b).1.map encI), Bs (manyL (num M63) n b).2, .c (.bool (decide ((manyL (num M63) n b).1.length = n)))]) := by
  refine pcall_body tabOk Try.func51 rfl rfl (by rw [Try.ntmps51]; simp) ?_
  simp only [Try.ntmps51, Bs]
  simp only [↓wt, wu, wk0, wk1, wk2, wk3, Nat.reduceAdd, Nat.reduceEqDiff, Nat.reduceLeDiff, Nat.reduceLT, Nat.reduceMul, Int.reduceLE, Int.reduceLT, Int.reduceEq, Int.reduceNe, wk4, laidS, keepS]
  refine scope_rule tabOk ?_
  simp only [↓wt, wu, wk0, wk1, wk2, wk3, Nat.reduceAdd, Nat.reduceEqDiff, Nat.reduceLeDiff, Nat.reduceLT, Nat.reduceMul, Int.reduceLE, Int.reduceLT, Int.reduceEq, Int.reduceNe, wk4, laidS, keepS]
  refine make_room (.inr (by decide)) (by omega) (by dsimp only; omega) (by omega) ?_
  simp only [↓wt, wu, wk0, wk1, wk2, wk3, Nat.reduceAdd, Nat.reduceEqDiff, Nat.reduceLeDiff, Nat.reduceLT, Nat.reduceMul, Int.reduceLE, Int.reduceLT, Int.reduceEq, Int.reduceNe, wk4, laidS, keepS]
  refine loop_ruleM tabOk [1, 2, 15] (fun x : List Int × List UInt8 => [(0, Bs x.2), (9, .s 0 0 x.1.length), (16, .c (.int .i64 x.1.length))]) (fun x => ⟨[(0, ⟨2, 1, x.1.map encI⟩)], 1⟩) (fun x => Tk (num M63) b x.1 x.2 ∧ x.1.length ≤ n) (fun x => n - x.1.length) ([], b) ⟨.nil, by simp⟩ (fun _ => rfl) ?_ ?_
  · simp only [↓wt, wu, wk0, wk1, wk2, wk3, wkf, Nat.reduceAdd, Nat.reduceEqDiff, Nat.reduceLeDiff, Nat.reduceLT, Nat.reduceMul, Int.reduceLE, Int.reduceLT, Int.reduceEq, Int.reduceNe, wk4, laidS, keepS, Bs, under_f]
    try trivial
  · rintro ⟨xs, r⟩ ⟨h1, h2⟩
    dsimp only at h1 h2
    have hr := h1.len num_len
    have e3 := wi_succ (k := xs.length) (by omega)
    simp only [↓wt, wu, wk0, wk1, wk2, wk3, Nat.reduceAdd, Nat.reduceEqDiff, Nat.reduceLeDiff, Nat.reduceLT, Nat.reduceMul, Int.reduceLE, Int.reduceLT, Int.reduceEq, Int.reduceNe, wk4, laidS, keepS, Bs]
    repeat' (first | (refine r_casesD (fun hp hb => ?_) (fun hp hb => ?_) <;> simp only [↓wt, wu, wk0, wk1, wk2, wk3, Nat.reduceAdd, Nat.reduceEqDiff, Nat.reduceLeDiff, Nat.reduceLT, Nat.reduceMul, Int.reduceLE, Int.reduceLT, Int.reduceEq, Int.reduceNe, wk4, laidS, keepS, Bs, hb]) | (refine r_casesN (fun hp hb => ?_) (fun hp hb => ?_) <;> simp only [↓wt, wu, wk0, wk1, wk2, wk3, Nat.reduceAdd, Nat.reduceEqDiff, Nat.reduceLeDiff, Nat.reduceLT, Nat.reduceMul, Int.reduceLE, Int.reduceLT, Int.reduceEq, Int.reduceNe, wk4, laidS, keepS, Bs, hb]) | (refine r_casesM (fun hp hb => ?_) (fun hp hb => ?_) <;> simp only [↓wt, wu, wk0, wk1, wk2, wk3, Nat.reduceAdd, Nat.reduceEqDiff, Nat.reduceLeDiff, Nat.reduceLT, Nat.reduceMul, Int.reduceLE, Int.reduceLT, Int.reduceEq, Int.reduceNe, wk4, laidS, keepS, Bs, hb]) | (refine r_casesB (fun hp hb => ?_) (fun hp hb => ?_) <;> simp only [↓wt, wu, wk0, wk1, wk2, wk3, Nat.reduceAdd, Nat.reduceEqDiff, Nat.reduceLeDiff, Nat.reduceLT, Nat.reduceMul, Int.reduceLE, Int.reduceLT, Int.reduceEq, Int.reduceNe, wk4, laidS, keepS, Bs, hb]) | (refine r_gcasesD (fun hp hb => ?_) (fun hp hb => ?_) <;> simp only [↓wt, wu, wk0, wk1, wk2, wk3, Nat.reduceAdd, Nat.reduceEqDiff, Nat.reduceLeDiff, Nat.reduceLT, Nat.reduceMul, Int.reduceLE, Int.reduceLT, Int.reduceEq, Int.reduceNe, wk4, laidS, keepS, Bs, hb]) | (refine r_gcasesN (fun hp hb => ?_) (fun hp hb => ?_) <;> simp only [↓wt, wu, wk0, wk1, wk2, wk3, Nat.reduceAdd, Nat.reduceEqDiff, Nat.reduceLeDiff, Nat.reduceLT, Nat.reduceMul, Int.reduceLE, Int.reduceLT, Int.reduceEq, Int.reduceNe, wk4, laidS, keepS, Bs, hb]) | (refine r_gcasesM (fun hp hb => ?_) (fun hp hb => ?_) <;> simp only [↓wt, wu, wk0, wk1, wk2, wk3, Nat.reduceAdd, Nat.reduceEqDiff, Nat.reduceLeDiff, Nat.reduceLT, Nat.reduceMul, Int.reduceLE, Int.reduceLT, Int.reduceEq, Int.reduceNe, wk4, laidS, keepS, Bs, hb]) | (refine r_gcasesB (fun hp hb => ?_) (fun hp hb => ?_) <;> simp only [↓wt, wu, wk0, wk1, wk2, wk3, Nat.reduceAdd, Nat.reduceEqDiff, Nat.reduceLeDiff, Nat.reduceLT, Nat.reduceMul, Int.reduceLE, Int.reduceLT, Int.reduceEq, Int.reduceNe, wk4, laidS, keepS, Bs, hb]) | ((with_reducible refine And.intro ?_ ?_); omega) | fail)
    · have h3 : xs.length < n := by omega
      refine icall_drop [] (number_call r (by omega)) ⟨arg_l (pureB _), trivial⟩ okR_take ?_
      simp only [↓wt, wu, wk0, wk1, wk2, wk3, Nat.reduceAdd, Nat.reduceEqDiff, Nat.reduceLeDiff, Nat.reduceLT, Nat.reduceMul, Int.reduceLE, Int.reduceLT, Int.reduceEq, Int.reduceNe, wk4, laidS, keepS, Bs]
      cases ho : (num M63 r).2.2
      · have hm := h1.many (n - xs.length)
        rw [show xs.length + (n - xs.length) = n by omega, show n - xs.length = (n - xs.length - 1) + 1 by omega] at hm
        simp only [manyL, ho, Bool.false_eq_true, if_false, List.append_nil] at hm
        simp only [↓wt, wu, wk0, wk1, wk2, wk3, Nat.reduceAdd, Nat.reduceEqDiff, Nat.reduceLeDiff, Nat.reduceLT, Nat.reduceMul, Int.reduceLE, Int.reduceLT, Int.reduceEq, Int.reduceNe, wk4, laidS, keepS, ho, Bs, Try.results51]
        rw [hm]
        exact exp_many3 (by rw [decide_eq_decide]; dsimp only; omega)
      · simp only [↓wt, wu, wk0, wk1, wk2, wk3, Nat.reduceAdd, Nat.reduceEqDiff, Nat.reduceLeDiff, Nat.reduceLT, Nat.reduceMul, Int.reduceLE, Int.reduceLT, Int.reduceEq, Int.reduceNe, wk4, laidS, keepS, ho, Bs]
        refine ⟨by omega, (xs ++ [(num M63 r).1], (num M63 r).2.1), ⟨h1.snoc ho, by simp; omega⟩, by simp; omega, ?_⟩
        simp only [↓wt, wu, wk0, wk1, wk2, wk3, wkf, Nat.reduceAdd, Nat.reduceEqDiff, Nat.reduceLeDiff, Nat.reduceLT, Nat.reduceMul, Int.reduceLE, Int.reduceLT, Int.reduceEq, Int.reduceNe, wk4, laidS, keepS, Bs, e3, under_f, List.length_append, List.map_append, underL_append, underL_I, encI_eq]
        try trivial
    · have hn2 : xs.length = n := by omega
      have hm := h1.many 0
      simp only [manyL, Nat.add_zero, List.append_nil, hn2] at hm
      simp only [↓wt, wu, wk0, wk1, wk2, wk3, Nat.reduceAdd, Nat.reduceEqDiff, Nat.reduceLeDiff, Nat.reduceLT, Nat.reduceMul, Int.reduceLE, Int.reduceLT, Int.reduceEq, Int.reduceNe, wk4, laidS, keepS, Bs, Try.results51]
      rw [hm]
      exact exp_many3 (by rw [decide_eq_decide]; dsimp only; omega)
/-- A row, as its bytes tell it. -/
noncomputable def rowT (B n : Nat) (b : List UInt8) : RowD × List UInt8 × Bool :=
  if (manyL (num B) (n + 2) b).1.length = n + 2 then (⟨(manyL (num B) (n + 2) b).1.getD 0 0, (manyL (num B) (n + 2) b).1.getD 1 0, (manyL (num B) (n + 2) b).1.drop 2⟩, (manyL (num B) (n + 2) b).2, true) else (⟨0, 0, []⟩, [], false)
theorem okR_many {xs : List Int} {r : List UInt8} {c : Value} : OkR (Under 0) (.t [.l 1 (xs.map encI), Bs r, .c c]) := ⟨.l _ _ (pureI _), .l _ _ (pureB _), .c _, trivial⟩
theorem xA_row {M : Mem} {r : RowD} : ∃ f, ExpA M (RowV r) (RowV r) [] f :=
  xA_pure (by show WeakL _ _; exact (show ResL [.c (.int .i64 r.i), .c (.int .i64 r.u), .l 1 (r.o.map encI)] [.c (.int .i64 r.i), .c (.int .i64 r.u), .l 1 (r.o.map encI)] from ⟨.refl _, .c _, .refl _, .c _, .refl _, .l _ _ (pureI _), trivial⟩).weak.1) (arg_rowV (M := M) (ids := [])).2.2.2
theorem xA_row0 {M : Mem} : ∃ f, ExpA M (.g [.c (.int .i64 0), .c (.int .i64 0), .c (.slice none 0 0)]) (RowV ⟨0, 0, []⟩) [] f :=
  xA_pure (by show WeakL _ _; exact (show ResL [.c (.int .i64 0), .c (.int .i64 0), .c (.slice none 0 0)] [.c (.int .i64 0), .c (.int .i64 0), .l 1 []] from ⟨.refl _, .c _, .refl _, .c _, trivial, okR_nil, trivial⟩).weak.1) (arg_rowV (M := M) (ids := [])).2.2.2
theorem xA_Bs {M : Mem} {r : List UInt8} : ∃ f, ExpA M (.l 1 (r.map encB)) (.l 1 (r.map encB)) [] f := xA_pure weak_l (.l _ _ (pureB _))
theorem exp_take0 {M : Mem} {sz : Nat} : Exp M (.t [.c (.slice none 0 0), .c (.slice none 0 0), .c (.bool false)]) (.t [.l sz [], .l 1 [], .c (.bool false)]) := exp_tA (xT_cons xA_nil (xT_cons xA_nil (xT_cons xA_c xT_nil)))
theorem takef_call (c : Conf) (b : List UInt8) (hl : b.length ≤ 1000000000) (hn : 1 ≤ c.n ∧ c.n ≤ 16) :
    PCall Try.prog 50 [Bs b, .e [.c (.int .i64 c.n), .c (.int .i64 c.q), .c (.int .i64 c.r), .c (.int .i64 c.p), .c (.int .i64 c.k), .c (.int .i64 c.c)]] (.t [RowV (rowT M63 c.n.toNat b).1, Bs (rowT M63 c.n.toNat b).2.1, .c (.bool (rowT M63 c.n.toNat b).2.2)]) := by
  obtain ⟨n, hcn⟩ : ∃ n : Nat, c.n = n := ⟨c.n.toNat, by omega⟩
  have m1 := manyI_call b (n + 2) hl (by omega)
  have e1 : IntKind.i64.wrap (c.n + 2) = ((n + 2 : Nat) : Int) := by rw [wrap_i64 (by omega) (by omega)]; omega
  have hnt : c.n.toNat = n := by omega
  refine pcall_body tabOk Try.func50 rfl rfl (by rw [Try.ntmps50]; simp) ?_
  simp only [Try.ntmps50, Bs]
  simp only [↓wt, wu, wk0, wk1, wk2, wk3, Nat.reduceAdd, Nat.reduceEqDiff, Nat.reduceLeDiff, Nat.reduceLT, Nat.reduceMul, Int.reduceLE, Int.reduceLT, Int.reduceEq, Int.reduceNe, wk4, laidS, keepS, e1]
  refine icall_drop [] m1 ⟨arg_l (pureB _), arg_c, arg_f, trivial⟩ okR_many ?_
  simp only [↓wt, wu, wk0, wk1, wk2, wk3, Nat.reduceAdd, Nat.reduceEqDiff, Nat.reduceLeDiff, Nat.reduceLT, Nat.reduceMul, Int.reduceLE, Int.reduceLT, Int.reduceEq, Int.reduceNe, wk4, laidS, keepS, Bs]
  repeat' (first | (refine r_casesD (fun hp hb => ?_) (fun hp hb => ?_) <;> simp only [↓wt, wu, wk0, wk1, wk2, wk3, Nat.reduceAdd, Nat.reduceEqDiff, Nat.reduceLeDiff, Nat.reduceLT, Nat.reduceMul, Int.reduceLE, Int.reduceLT, Int.reduceEq, Int.reduceNe, wk4, laidS, keepS, Try.results50, hb]) | (refine r_casesN (fun hp hb => ?_) (fun hp hb => ?_) <;> simp only [↓wt, wu, wk0, wk1, wk2, wk3, Nat.reduceAdd, Nat.reduceEqDiff, Nat.reduceLeDiff, Nat.reduceLT, Nat.reduceMul, Int.reduceLE, Int.reduceLT, Int.reduceEq, Int.reduceNe, wk4, laidS, keepS, Try.results50, hb]) | (refine r_casesM (fun hp hb => ?_) (fun hp hb => ?_) <;> simp only [↓wt, wu, wk0, wk1, wk2, wk3, Nat.reduceAdd, Nat.reduceEqDiff, Nat.reduceLeDiff, Nat.reduceLT, Nat.reduceMul, Int.reduceLE, Int.reduceLT, Int.reduceEq, Int.reduceNe, wk4, laidS, keepS, Try.results50, hb]) | (refine r_casesB (fun hp hb => ?_) (fun hp hb => ?_) <;> simp only [↓wt, wu, wk0, wk1, wk2, wk3, Nat.reduceAdd, Nat.reduceEqDiff, Nat.reduceLeDiff, Nat.reduceLT, Nat.reduceMul, Int.reduceLE, Int.reduceLT, Int.reduceEq, Int.reduceNe, wk4, laidS, keepS, Try.results50, hb]) | (refine r_gcasesD (fun hp hb => ?_) (fun hp hb => ?_) <;> simp only [↓wt, wu, wk0, wk1, wk2, wk3, Nat.reduceAdd, Nat.reduceEqDiff, Nat.reduceLeDiff, Nat.reduceLT, Nat.reduceMul, Int.reduceLE, Int.reduceLT, Int.reduceEq, Int.reduceNe, wk4, laidS, keepS, Try.results50, hb]) | (refine r_gcasesN (fun hp hb => ?_) (fun hp hb => ?_) <;> simp only [↓wt, wu, wk0, wk1, wk2, wk3, Nat.reduceAdd, Nat.reduceEqDiff, Nat.reduceLeDiff, Nat.reduceLT, Nat.reduceMul, Int.reduceLE, Int.reduceLT, Int.reduceEq, Int.reduceNe, wk4, laidS, keepS, Try.results50, hb]) | (refine r_gcasesM (fun hp hb => ?_) (fun hp hb => ?_) <;> simp only [↓wt, wu, wk0, wk1, wk2, wk3, Nat.reduceAdd, Nat.reduceEqDiff, Nat.reduceLeDiff, Nat.reduceLT, Nat.reduceMul, Int.reduceLE, Int.reduceLT, Int.reduceEq, Int.reduceNe, wk4, laidS, keepS, Try.results50, hb]) | (refine r_gcasesB (fun hp hb => ?_) (fun hp hb => ?_) <;> simp only [↓wt, wu, wk0, wk1, wk2, wk3, Nat.reduceAdd, Nat.reduceEqDiff, Nat.reduceLeDiff, Nat.reduceLT, Nat.reduceMul, Int.reduceLE, Int.reduceLT, Int.reduceEq, Int.reduceNe, wk4, laidS, keepS, Try.results50, hb]) | ((with_reducible refine And.intro ?_ ?_); omega) | fail)
  · have hm : n + 2 = (manyL (num M63) (n + 2) b).1.length := hp.symm
    refine draw_rule tabOk mixed [0, 0, 0, 0, 0, 0, 0, 0, 1, 0, 1, 0, 0] [[], [0], [0, 1], [], [3], [3, 4], [], [6], [0, 1, 2, 3, 4, 5, 6, 7], [], [0, 1, 2, 3, 4, 5, 6, 7, 8], [0, 1, 2, 3, 4, 5, 6, 7, 8, 9, 10], [0, 1, 2, 3, 4, 5, 6, 7, 8, 9, 10, 11]] (by kernel_rfl) ?_
    simp only [↓wt, wu, wk0, wk1, wk2, wk3, Nat.reduceAdd, Nat.reduceEqDiff, Nat.reduceLeDiff, Nat.reduceLT, Nat.reduceMul, Int.reduceLE, Int.reduceLT, Int.reduceEq, Int.reduceNe, wk4, laidS, keepS, elem_I]
    repeat (refine And.intro (by omega) ?_)
    refine d_heavyX (by simp only [↓wt, wu, wk0, wk1, wk2, wk3, Nat.reduceAdd, Nat.reduceEqDiff, Nat.reduceLeDiff, Nat.reduceLT, Nat.reduceMul, Int.reduceLE, Int.reduceLT, Int.reduceEq, Int.reduceNe, wk4, laidS, keepS]; (repeat (first | refine And.intro (by omega) ?_ | refine And.intro (pureB _) ?_ | refine And.intro (pureI _) ?_ | refine And.intro ⟨pureB _, pureB _⟩ ?_ | refine And.intro ⟨pureB _, pureI _⟩ ?_ | refine And.intro ⟨pureI _, pureB _⟩ ?_ | refine And.intro ⟨pureI _, pureI _⟩ ?_)); exact ⟨rfl, rfl⟩) ?_
    simp only [↓wt, wu, wk0, wk1, wk2, wk3, Nat.reduceAdd, Nat.reduceEqDiff, Nat.reduceLeDiff, Nat.reduceLT, Nat.reduceMul, Int.reduceLE, Int.reduceLT, Int.reduceEq, Int.reduceNe, wk4, laidS, keepS]
    refine d_heavyX (by simp only [↓wt, wu, wk0, wk1, wk2, wk3, Nat.reduceAdd, Nat.reduceEqDiff, Nat.reduceLeDiff, Nat.reduceLT, Nat.reduceMul, Int.reduceLE, Int.reduceLT, Int.reduceEq, Int.reduceNe, wk4, laidS, keepS, Cell]; (repeat (first | refine And.intro (by omega) ?_ | refine And.intro (pureB _) ?_ | refine And.intro (pureI _) ?_ | refine And.intro ⟨pureB _, pureB _⟩ ?_ | refine And.intro ⟨pureB _, pureI _⟩ ?_ | refine And.intro ⟨pureI _, pureB _⟩ ?_ | refine And.intro ⟨pureI _, pureI _⟩ ?_)); exact ⟨rfl, rfl⟩) ?_
    simp only [↓wt, wu, wk0, wk1, wk2, wk3, Nat.reduceAdd, Nat.reduceEqDiff, Nat.reduceLeDiff, Nat.reduceLT, Nat.reduceMul, Int.reduceLE, Int.reduceLT, Int.reduceEq, Int.reduceNe, wk4, laidS, keepS, Try.results50]
    have e : rowT M63 n b = (⟨(manyL (num M63) (n + 2) b).1.getD 0 0, (manyL (num M63) (n + 2) b).1.getD 1 0, (manyL (num M63) (n + 2) b).1.drop 2⟩, (manyL (num M63) (n + 2) b).2, true) := by rw [rowT, if_pos hp]
    rw [hnt, e]
    exact exp_tA (xT_cons (xA_row (r := ⟨_, _, _⟩)) (xT_cons xA_Bs (xT_cons xA_c xT_nil)))
  · have e : rowT M63 n b = (⟨0, 0, []⟩, [], false) := by rw [rowT, if_neg hp]
    rw [hnt, e]
    exact exp_tA (xT_cons xA_row0 (xT_cons xA_nil (xT_cons xA_c xT_nil)))
theorem manyL_rest {α : Type} {take : List UInt8 → α × List UInt8 × Bool} (ht : ∀ b, (take b).2.1.length ≤ b.length) : ∀ n b, (manyL take n b).2.length ≤ b.length
  | 0, b => by simp [manyL]
  | n + 1, b => by
    simp only [manyL]
    split
    · exact Nat.le_trans (manyL_rest ht n _) (ht b)
    · exact Nat.le_refl _
theorem rowT_len (B n : Nat) (b : List UInt8) : (rowT B n b).2.1.length ≤ b.length := by
  unfold rowT
  split
  · exact manyL_rest num_len _ _
  · simp
theorem okR_takeR {r : RowD} {b : List UInt8} {v : Value} : OkR (Under 0) (.t [RowV r, Bs b, .c v]) := ⟨⟨.c _, .c _, .l _ _ (pureI _), trivial⟩, okR_Bs, .c _, trivial⟩
theorem exp_manyR {T : TypeId} {xs : List RowD} {r : List UInt8} {b c : Bool} (hc : b = c) : Exp ⟨[(0, ⟨T, 3, xs.map RowV⟩)], 1⟩ (.t [.s 0 0 xs.length, .l 1 (r.map encB), .c (.bool b)]) (.t [BooksV xs, .l 1 (r.map encB), .c (.bool c)]) := by
  subst hc
  exact exp_tA (xT_cons (xA_frz (off := 0) rfl (by simp) rfl (pureR _)) (xT_cons xA_Bs (xT_cons xA_c xT_nil)))
theorem manyR_call (c : Conf) (b : List UInt8) (hl : b.length ≤ 1000000000) (hn : 1 ≤ c.n ∧ c.n ≤ 16) :
    PCall Try.prog 49 [Bs b, .c (.int .i64 c.n), .f 50 [.e [.c (.int .i64 c.n), .c (.int .i64 c.q), .c (.int .i64 c.r), .c (.int .i64 c.p), .c (.int .i64 c.k), .c (.int .i64 c.c)]]]
      (.t [BooksV (manyL (rowT M63 c.n.toNat) c.n.toNat b).1, Bs (manyL (rowT M63 c.n.toNat) c.n.toNat b).2, .c (.bool (decide ((manyL (rowT M63 c.n.toNat) c.n.toNat b).1.length = c.n.toNat)))]) := by
  obtain ⟨n, hcn⟩ : ∃ n : Nat, c.n = n := ⟨c.n.toNat, by omega⟩
  have hnt : c.n.toNat = n := by omega
  refine pcall_body tabOk Try.func49 rfl rfl (by rw [Try.ntmps49]; simp) ?_
  simp only [Try.ntmps49, Bs, hnt]
  simp only [↓wt, wu, wk0, wk1, wk2, wk3, Nat.reduceAdd, Nat.reduceEqDiff, Nat.reduceLeDiff, Nat.reduceLT, Nat.reduceMul, Int.reduceLE, Int.reduceLT, Int.reduceEq, Int.reduceNe, wk4, laidS, keepS]
  refine scope_rule tabOk ?_
  simp only [↓wt, wu, wk0, wk1, wk2, wk3, Nat.reduceAdd, Nat.reduceEqDiff, Nat.reduceLeDiff, Nat.reduceLT, Nat.reduceMul, Int.reduceLE, Int.reduceLT, Int.reduceEq, Int.reduceNe, wk4, laidS, keepS]
  refine make_room (.inr (by decide)) (by omega) (by dsimp only; omega) (by omega) ?_
  simp only [↓wt, wu, wk0, wk1, wk2, wk3, Nat.reduceAdd, Nat.reduceEqDiff, Nat.reduceLeDiff, Nat.reduceLT, Nat.reduceMul, Int.reduceLE, Int.reduceLT, Int.reduceEq, Int.reduceNe, wk4, laidS, keepS]
  refine loop_ruleM tabOk [1, 2, 15] (fun x : List RowD × List UInt8 => [(0, Bs x.2), (9, .s 0 0 x.1.length), (16, .c (.int .i64 x.1.length))]) (fun x => ⟨[(0, ⟨60, 3, x.1.map RowV⟩)], 1⟩) (fun x => Tk (rowT M63 n) b x.1 x.2 ∧ x.1.length ≤ n) (fun x => n - x.1.length) ([], b) ⟨.nil, by simp⟩ (fun _ => rfl) ?_ ?_
  · simp only [↓wt, wu, wk0, wk1, wk2, wk3, wkf, Nat.reduceAdd, Nat.reduceEqDiff, Nat.reduceLeDiff, Nat.reduceLT, Nat.reduceMul, Int.reduceLE, Int.reduceLT, Int.reduceEq, Int.reduceNe, wk4, laidS, keepS, Bs, under_f, under_e]
    try trivial
  · rintro ⟨xs, r⟩ ⟨h1, h2⟩
    dsimp only at h1 h2
    have hr := h1.len (rowT_len _ n)
    have e3 := wi_succ (k := xs.length) (by omega)
    simp only [↓wt, wu, wk0, wk1, wk2, wk3, Nat.reduceAdd, Nat.reduceEqDiff, Nat.reduceLeDiff, Nat.reduceLT, Nat.reduceMul, Int.reduceLE, Int.reduceLT, Int.reduceEq, Int.reduceNe, wk4, laidS, keepS, Bs]
    repeat' (first | (refine r_casesD (fun hp hb => ?_) (fun hp hb => ?_) <;> simp only [↓wt, wu, wk0, wk1, wk2, wk3, Nat.reduceAdd, Nat.reduceEqDiff, Nat.reduceLeDiff, Nat.reduceLT, Nat.reduceMul, Int.reduceLE, Int.reduceLT, Int.reduceEq, Int.reduceNe, wk4, laidS, keepS, Bs, hb]) | (refine r_casesN (fun hp hb => ?_) (fun hp hb => ?_) <;> simp only [↓wt, wu, wk0, wk1, wk2, wk3, Nat.reduceAdd, Nat.reduceEqDiff, Nat.reduceLeDiff, Nat.reduceLT, Nat.reduceMul, Int.reduceLE, Int.reduceLT, Int.reduceEq, Int.reduceNe, wk4, laidS, keepS, Bs, hb]) | (refine r_casesM (fun hp hb => ?_) (fun hp hb => ?_) <;> simp only [↓wt, wu, wk0, wk1, wk2, wk3, Nat.reduceAdd, Nat.reduceEqDiff, Nat.reduceLeDiff, Nat.reduceLT, Nat.reduceMul, Int.reduceLE, Int.reduceLT, Int.reduceEq, Int.reduceNe, wk4, laidS, keepS, Bs, hb]) | (refine r_casesB (fun hp hb => ?_) (fun hp hb => ?_) <;> simp only [↓wt, wu, wk0, wk1, wk2, wk3, Nat.reduceAdd, Nat.reduceEqDiff, Nat.reduceLeDiff, Nat.reduceLT, Nat.reduceMul, Int.reduceLE, Int.reduceLT, Int.reduceEq, Int.reduceNe, wk4, laidS, keepS, Bs, hb]) | (refine r_gcasesD (fun hp hb => ?_) (fun hp hb => ?_) <;> simp only [↓wt, wu, wk0, wk1, wk2, wk3, Nat.reduceAdd, Nat.reduceEqDiff, Nat.reduceLeDiff, Nat.reduceLT, Nat.reduceMul, Int.reduceLE, Int.reduceLT, Int.reduceEq, Int.reduceNe, wk4, laidS, keepS, Bs, hb]) | (refine r_gcasesN (fun hp hb => ?_) (fun hp hb => ?_) <;> simp only [↓wt, wu, wk0, wk1, wk2, wk3, Nat.reduceAdd, Nat.reduceEqDiff, Nat.reduceLeDiff, Nat.reduceLT, Nat.reduceMul, Int.reduceLE, Int.reduceLT, Int.reduceEq, Int.reduceNe, wk4, laidS, keepS, Bs, hb]) | (refine r_gcasesM (fun hp hb => ?_) (fun hp hb => ?_) <;> simp only [↓wt, wu, wk0, wk1, wk2, wk3, Nat.reduceAdd, Nat.reduceEqDiff, Nat.reduceLeDiff, Nat.reduceLT, Nat.reduceMul, Int.reduceLE, Int.reduceLT, Int.reduceEq, Int.reduceNe, wk4, laidS, keepS, Bs, hb]) | (refine r_gcasesB (fun hp hb => ?_) (fun hp hb => ?_) <;> simp only [↓wt, wu, wk0, wk1, wk2, wk3, Nat.reduceAdd, Nat.reduceEqDiff, Nat.reduceLeDiff, Nat.reduceLT, Nat.reduceMul, Int.reduceLE, Int.reduceLT, Int.reduceEq, Int.reduceNe, wk4, laidS, keepS, Bs, hb]) | ((with_reducible refine And.intro ?_ ?_); omega) | fail)
    · have h3 : xs.length < n := by omega
      have m1 := takef_call c r (by omega) hn
      rw [hnt] at m1
      refine icall_drop [] m1 ⟨arg_l (pureB _), arg_e (by simp only [under_c, List.mem_cons, List.not_mem_nil, or_false, forall_eq_or_imp, forall_eq, and_self]), trivial⟩ okR_takeR ?_
      simp only [↓wt, wu, wk0, wk1, wk2, wk3, Nat.reduceAdd, Nat.reduceEqDiff, Nat.reduceLeDiff, Nat.reduceLT, Nat.reduceMul, Int.reduceLE, Int.reduceLT, Int.reduceEq, Int.reduceNe, wk4, laidS, keepS, Bs, RowV_eq]
      cases ho : (rowT M63 n r).2.2
      · have hm := h1.many (n - xs.length)
        rw [show xs.length + (n - xs.length) = n by omega, show n - xs.length = (n - xs.length - 1) + 1 by omega] at hm
        simp only [manyL, ho, Bool.false_eq_true, if_false, List.append_nil] at hm
        simp only [↓wt, wu, wk0, wk1, wk2, wk3, Nat.reduceAdd, Nat.reduceEqDiff, Nat.reduceLeDiff, Nat.reduceLT, Nat.reduceMul, Int.reduceLE, Int.reduceLT, Int.reduceEq, Int.reduceNe, wk4, laidS, keepS, ho, Bs, RowV_eq, Try.results49]
        rw [hm]
        exact exp_manyR (by rw [decide_eq_decide]; dsimp only; omega)
      · simp only [↓wt, wu, wk0, wk1, wk2, wk3, Nat.reduceAdd, Nat.reduceEqDiff, Nat.reduceLeDiff, Nat.reduceLT, Nat.reduceMul, Int.reduceLE, Int.reduceLT, Int.reduceEq, Int.reduceNe, wk4, laidS, keepS, ho, Bs, RowV_eq, Cell]
        refine ⟨by omega, (xs ++ [(rowT M63 n r).1], (rowT M63 n r).2.1), ⟨h1.snoc ho, by simp; omega⟩, by simp; omega, ?_⟩
        simp only [↓wt, wu, wk0, wk1, wk2, wk3, wkf, Nat.reduceAdd, Nat.reduceEqDiff, Nat.reduceLeDiff, Nat.reduceLT, Nat.reduceMul, Int.reduceLE, Int.reduceLT, Int.reduceEq, Int.reduceNe, wk4, laidS, keepS, Bs, e3, under_f, under_e, List.length_append, List.map_append, underL_append, underL_R, RowV_eq]
        try trivial
    · have hn2 : xs.length = n := by omega
      have hm := h1.many 0
      simp only [manyL, Nat.add_zero, List.append_nil, hn2] at hm
      simp only [↓wt, wu, wk0, wk1, wk2, wk3, Nat.reduceAdd, Nat.reduceEqDiff, Nat.reduceLeDiff, Nat.reduceLT, Nat.reduceMul, Int.reduceLE, Int.reduceLT, Int.reduceEq, Int.reduceNe, wk4, laidS, keepS, Bs, Try.results49]
      rw [hm]
      exact exp_manyR (by rw [decide_eq_decide]; dsimp only; omega)
end Go.Ab

set_option linter.unusedSimpArgs false
set_option linter.unusedVariables false
set_option linter.constructorNameAsVariable false
set_option maxRecDepth 100000
namespace Go.Ab
open Go Go.Proofs Go.RowKit

theorem tk_put {v : Nat} {r : List UInt8} (h : v < 18446744073709551616) : tk (putL v ++ r) = (v, r, true) := by
  obtain ⟨h1, h2, h3⟩ := (tk_is (putL v ++ r)).uniq (.inl ⟨rfl, h, rfl⟩)
  exact Prod.ext h1 (Prod.ext h2 h3)
theorem wrap_nat63 {v : Nat} (h : v < M63) : IntKind.i64.wrap (v : Int) = v := by
  have : v < 9223372036854775808 := h
  exact wrap_i64 (by omega) (by omega)
theorem uNat_nn {v : Int} (h : 0 ≤ v) (h2 : v < 9223372036854775808) : ((uNat v : Nat) : Int) = v := by unfold uNat; omega
theorem num_ok {B : Nat} (hB : B ≤ M63) {b : List UInt8} (h : (num B b).2.2 = true) : b = putL (uNat (num B b).1) ++ (num B b).2.1 ∧ 0 ≤ (num B b).1 ∧ (num B b).1 < B := by
  simp only [num, Bool.and_eq_true, decide_eq_true_eq] at h ⊢
  have hw := wrap_nat63 (v := (tk b).1) (by omega)
  rw [hw]
  rcases tk_is b with ⟨_, h1, h2⟩ | ⟨h1, _⟩
  · refine ⟨?_, by omega, by omega⟩
    have : uNat ((tk b).1 : Int) = (tk b).1 := by unfold uNat; omega
    rw [this]; exact h2
  · rw [h.1] at h1; cases h1
theorem num_put {B : Nat} (hB : B ≤ M63) {v : Int} {r : List UInt8} (h1 : 0 ≤ v) (h2 : v < B) : num B (putL (uNat v) ++ r) = (v, r, true) := by
  have h3 : v < 9223372036854775808 := by
    have : B ≤ 9223372036854775808 := hB
    omega
  have e := uNat_nn h1 h3
  have hl : uNat v < B := by omega
  simp only [num, tk_put (uNat_lt v), Bool.true_and, decide_eq_true hl]
  rw [e]
  exact Prod.ext (wrap_i64 (by omega) h3) rfl
/-- Numbers that were put are taken as they were. -/
theorem many_put {B : Nat} (hB : B ≤ M63) : ∀ (xs : List Int) (r : List UInt8), (∀ v ∈ xs, 0 ≤ v ∧ v < B) → manyL (num B) xs.length (encN xs ++ r) = (xs, r)
  | [], r, _ => rfl
  | v :: xs, r, h => by
    have hv := h v (by simp)
    have ih := many_put hB xs r fun w hw => h w (by simp [hw])
    have e := num_put hB (r := encN xs ++ r) hv.1 hv.2
    simp only [encN, List.length_cons, List.append_assoc, manyL, e, if_true, ih]
/-- What was taken is what the bytes say. -/
theorem many_of {B : Nat} (hB : B ≤ M63) : ∀ n b, b = encN (manyL (num B) n b).1 ++ (manyL (num B) n b).2
  | 0, b => by simp [manyL, encN]
  | n + 1, b => by
    simp only [manyL]
    split
    · rename_i h
      have h1 := num_ok hB h
      have ih := many_of hB n (num B b).2.1
      simp only [encN, List.append_assoc, ← ih]
      exact h1.1
    · simp [encN]
theorem row_put {B n : Nat} (hB : B ≤ M63) {w : RowD} {r : List UInt8} (hl : w.o.length = n) (h : ∀ v ∈ numsR w, 0 ≤ v ∧ v < B) : rowT B n (encN (numsR w) ++ r) = (w, r, true) := by
  have := many_put hB (numsR w) r h
  rw [numsR_len, hl] at this
  rw [rowT, this, if_pos (by rw [numsR_len, hl])]
  simp [numsR]
theorem row_of {B n : Nat} (hB : B ≤ M63) {b : List UInt8} (h : (rowT B n b).2.2 = true) : b = encN (numsR (rowT B n b).1) ++ (rowT B n b).2.1 ∧ (rowT B n b).1.o.length = n := by
  unfold rowT at h ⊢
  split
  · rename_i hl
    have h1 := many_of hB (n + 2) b
    generalize manyL (num B) (n + 2) b = m at h1 hl ⊢
    obtain ⟨xs, r⟩ := m
    dsimp only at h1 hl ⊢
    match xs, hl with
    | x :: y :: zs, hl => exact ⟨by simpa [numsR] using h1, by simpa using hl⟩
  · rename_i hl
    rw [if_neg hl] at h; cases h
theorem rows_put {B n : Nat} (hB : B ≤ M63) : ∀ (l : List RowD) (r : List UInt8), (∀ w ∈ l, w.o.length = n ∧ ∀ v ∈ numsR w, 0 ≤ v ∧ v < B) → manyL (rowT B n) l.length (encN (numsB l) ++ r) = (l, r)
  | [], r, _ => rfl
  | w :: l, r, h => by
    have hw := h w (by simp)
    have ih := rows_put hB l r fun x hx => h x (by simp [hx])
    have e := row_put hB (r := encN (numsB l) ++ r) hw.1 hw.2
    simp only [numsB, encN_append, List.length_cons, List.append_assoc, manyL, e, if_true, ih]
theorem rows_of {B n : Nat} (hB : B ≤ M63) : ∀ m b, b = encN (numsB (manyL (rowT B n) m b).1) ++ (manyL (rowT B n) m b).2 ∧ ∀ w ∈ (manyL (rowT B n) m b).1, w.o.length = n
  | 0, b => by simp [manyL, encN, numsB]
  | m + 1, b => by
    simp only [manyL]
    split
    · rename_i h
      have h1 := row_of hB h
      have ih := rows_of (n := n) hB m (rowT B n b).2.1
      refine ⟨?_, fun w hw => ?_⟩
      · simp only [numsB, encN_append, List.append_assoc, ← ih.1]
        exact h1.1
      · rcases List.mem_cons.1 hw with rfl | hw
        · exact h1.2
        · exact ih.2 w hw
    · exact ⟨by simp [encN, numsB], fun w hw => by simp at hw⟩
/-- The books with which bytes begin. -/
noncomputable def takeB (B : Nat) (c : Conf) (b : List UInt8) : List RowD × List UInt8 × Bool :=
  if MayC c ∧ (manyL (rowT B c.n.toNat) c.n.toNat b).1.length = c.n.toNat ∧ RightB c (manyL (rowT B c.n.toNat) c.n.toNat b).1 then ((manyL (rowT B c.n.toNat) c.n.toNat b).1, (manyL (rowT B c.n.toNat) c.n.toNat b).2, true) else ([], [], false)
def BooksIs (c : Conf) (b : List UInt8) (l : List RowD) (r : List UInt8) (o : Bool) : Prop :=
  (o = true ∧ RightB c l ∧ b = encN (numsB l) ++ r) ∨ (o = false ∧ l = [] ∧ r = [] ∧ ∀ l' r', RightB c l' → encN (numsB l') ++ r' ≠ b)
theorem right_mem {c : Conf} {l : List RowD} (h : RightB c l) {w : RowD} (hw : w ∈ l) : w.o.length = c.n.toNat ∧ ∀ v ∈ numsR w, 0 ≤ v ∧ v < 4611686018427387905 := by
  obtain ⟨k, hk, rfl⟩ := List.getElem_of_mem hw
  have e : l[k] = rowAt l k := by rw [rowAt, List.getD_eq_getElem?_getD, List.getElem?_eq_getElem hk]; rfl
  rw [e]
  have hr := h.2.1.row h.1 hk
  have hn := h.2.1.1
  refine ⟨by omega, fun v hv => ?_⟩
  simp only [numsR, List.mem_cons] at hv
  rcases hv with rfl | rfl | hv
  · omega
  · omega
  · have := hr.2.2.2.2.1 v hv
    unfold Within at this; omega
theorem books_put {B : Nat} (hB : B ≤ M63) (hB2 : 4611686018427387905 ≤ B) {c : Conf} {l : List RowD} {r : List UInt8} (h : RightB c l) : takeB B c (encN (numsB l) ++ r) = (l, r, true) := by
  have hn := h.2.1.1
  have hm := rows_put hB (n := c.n.toNat) l r fun w hw => ⟨(right_mem h hw).1, fun v hv => by have := (right_mem h hw).2 v hv; omega⟩
  have e : l.length = c.n.toNat := by omega
  rw [e] at hm
  rw [takeB, hm, if_pos ⟨h.1, e, h⟩]
theorem takeB_is {B : Nat} (hB : B ≤ M63) (hB2 : 4611686018427387905 ≤ B) (c : Conf) (b : List UInt8) : BooksIs c b (takeB B c b).1 (takeB B c b).2.1 (takeB B c b).2.2 := by
  by_cases h : MayC c ∧ (manyL (rowT B c.n.toNat) c.n.toNat b).1.length = c.n.toNat ∧ RightB c (manyL (rowT B c.n.toNat) c.n.toNat b).1
  · rw [takeB, if_pos h]
    exact .inl ⟨rfl, h.2.2, (rows_of hB _ b).1⟩
  · have e : takeB B c b = ([], [], false) := by rw [takeB, if_neg h]
    rw [e]
    refine .inr ⟨rfl, rfl, rfl, fun l' r' hr he => ?_⟩
    have := books_put hB hB2 (r := r') hr
    rw [he, e] at this
    cases this
theorem BooksIs.uniq {c : Conf} {b : List UInt8} {l m : List RowD} {r s : List UInt8} {o p : Bool} (h : BooksIs c b l r o) (k : BooksIs c b m s p) : l = m ∧ r = s ∧ o = p := by
  rcases h with ⟨rfl, h1, h2⟩ | ⟨rfl, rfl, rfl, h3⟩ <;> rcases k with ⟨rfl, k1, k2⟩ | ⟨rfl, rfl, rfl, k3⟩
  · have e1 := books_put (Nat.le_refl M63) (by decide) (r := r) h1
    have e2 := books_put (Nat.le_refl M63) (by decide) (r := s) k1
    rw [← h2] at e1
    rw [← k2, e1] at e2
    simp only [Prod.mk.injEq] at e2
    exact ⟨e2.1, e2.2.1, rfl⟩
  · exact absurd h2.symm (k3 _ _ h1)
  · exact absurd k2.symm (h3 _ _ k1)
  · exact ⟨rfl, rfl, rfl⟩
theorem takeB_same {B : Nat} (hB : B ≤ M63) (hB2 : 4611686018427387905 ≤ B) (c : Conf) (b : List UInt8) : takeB B c b = takeB M63 c b := by
  obtain ⟨h1, h2, h3⟩ := (takeB_is hB hB2 c b).uniq (takeB_is (Nat.le_refl _) (by decide) c b)
  exact Prod.ext h1 (Prod.ext h2 h3)
theorem takeB_lens {c : Conf} {B m n : Nat} {b : List UInt8} (hB : B ≤ M63) (hm : m ≤ 16) (hn : n ≤ 16) : Lens (manyL (rowT B n) m b).1 :=
  lens_dec ⟨by have := manyL_len (take := rowT B n) m b; omega, fun w hw => by have := (rows_of hB m b).2 w hw; omega⟩
end Go.Ab
