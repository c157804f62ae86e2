/- Paint: what is taken: numbers, so many of them. -/
import Derived.Test.YtblnakmeaokemacPn1
import Derived.Test.YtblnakmeaokemacAbG9
set_option linter.unusedSimpArgs false
set_option linter.unusedVariables false
set_option linter.constructorNameAsVariable false
set_option maxRecDepth 100000
namespace Go.Ab
open Go Go.Proofs Go.RowKit

/-- What is taken, as a function. -/
noncomputable def tk (b : List UInt8) : Nat × List UInt8 × Bool :=
  ⟨Classical.choose (takeIs_ex b), Classical.choose (Classical.choose_spec (takeIs_ex b)), Classical.choose (Classical.choose_spec (Classical.choose_spec (takeIs_ex b)))⟩
theorem tk_is (b : List UInt8) : TakeIs b (tk b).1 (tk b).2.1 (tk b).2.2 := Classical.choose_spec (Classical.choose_spec (Classical.choose_spec (takeIs_ex b)))
theorem tk_lt (b : List UInt8) : (tk b).1 < 18446744073709551616 := by
  rcases tk_is b with ⟨_, h, _⟩ | ⟨_, h, _⟩
  · exact h
  · rw [h]; decide
theorem tk_len (b : List UInt8) : (tk b).2.1.length ≤ b.length := by
  rcases tk_is b with ⟨_, _, h⟩ | ⟨_, _, h, _⟩
  · have := congrArg List.length h
    rw [List.length_append] at this; omega
  · rw [h]; simp
theorem okR_take {a : Value} {r : List UInt8} {c : Value} : OkR (Under 0) (.t [.c a, Bs r, .c c]) := ⟨.c _, .l _ _ (pureB _), .c _, trivial⟩
theorem exp_tk {M : Mem} {a c : Value} {r : List UInt8} : Exp M (.t [.c a, .l 1 (r.map encB), .c c]) (.t [.c a, .l 1 (r.map encB), .c c]) := exp_tA (xT_cons xA_c (xT_cons (xA_pure weak_l (.l _ _ (pureB _))) (xT_cons xA_c xT_nil)))
abbrev M63 : Nat := 9223372036854775808
/-- A number that isn't above a bound. -/
noncomputable def num (B : Nat) (b : List UInt8) : Int × List UInt8 × Bool := ⟨IntKind.i64.wrap ((tk b).1 : Int), (tk b).2.1, (tk b).2.2 && decide ((tk b).1 < B)⟩
theorem number_call (b : List UInt8) (hl : b.length ≤ 1000000000) : PCall Try.prog 28 [Bs b] (.t [.c (.int .i64 (num M63 b).1), Bs (num M63 b).2.1, .c (.bool (num M63 b).2.2)]) := by
  have m1 := ntake_call b hl (tk_is b)
  refine pcall_body tabOk Try.func28 rfl rfl (by rw [Try.ntmps28]; simp) ?_
  simp only [Try.ntmps28, Bs]
  simp only [↓wt, wu, wk0, wk1, wk2, wk3, Nat.reduceAdd, Nat.reduceEqDiff, Nat.reduceLeDiff, Nat.reduceLT, Nat.reduceMul, Int.reduceLE, Int.reduceLT, Int.reduceEq, Int.reduceNe, wk4, laidS, keepS]
  refine icall_drop [] m1 ⟨arg_l (pureB _), trivial⟩ okR_take ?_
  simp only [↓wt, wu, wk0, wk1, wk2, wk3, Nat.reduceAdd, Nat.reduceEqDiff, Nat.reduceLeDiff, Nat.reduceLT, Nat.reduceMul, Int.reduceLE, Int.reduceLT, Int.reduceEq, Int.reduceNe, wk4, laidS, keepS, Bs]
  have e : decide ((((tk b).1 : Nat) : Int) < 9223372036854775808) = decide ((tk b).1 < 9223372036854775808) := decide_eq_decide.2 (by omega)
  cases ho : (tk b).2.2
  · simp only [↓wt, wu, wk0, wk1, wk2, wk3, Nat.reduceAdd, Nat.reduceEqDiff, Nat.reduceLeDiff, Nat.reduceLT, Nat.reduceMul, Int.reduceLE, Int.reduceLT, Int.reduceEq, Int.reduceNe, wk4, laidS, keepS, ho, Try.results28]
    simp only [num, ho, Bool.false_and]
    exact exp_tk
  · simp only [↓wt, wu, wk0, wk1, wk2, wk3, Nat.reduceAdd, Nat.reduceEqDiff, Nat.reduceLeDiff, Nat.reduceLT, Nat.reduceMul, Int.reduceLE, Int.reduceLT, Int.reduceEq, Int.reduceNe, wk4, laidS, keepS, ho, Try.results28]
    simp only [num, ho, Bool.true_and, e]
    exact exp_tk
/-- So many, one behind the other, up to the first that is none. -/
def manyL {α : Type} (take : List UInt8 → α × List UInt8 × Bool) : Nat → List UInt8 → List α × List UInt8
  | 0, b => ([], b)
  | n + 1, b => if (take b).2.2 then ((take b).1 :: (manyL take n (take b).2.1).1, (manyL take n (take b).2.1).2) else ([], b)
inductive Tk {α : Type} (take : List UInt8 → α × List UInt8 × Bool) (b : List UInt8) : List α → List UInt8 → Prop
  | nil : Tk take b [] b
  | snoc {xs : List α} {r : List UInt8} (h : Tk take b xs r) (ho : (take r).2.2 = true) : Tk take b (xs ++ [(take r).1]) (take r).2.1
theorem Tk.many {α : Type} {take : List UInt8 → α × List UInt8 × Bool} {b : List UInt8} {xs : List α} {r : List UInt8} (h : Tk take b xs r) : ∀ m, manyL take (xs.length + m) b = (xs ++ (manyL take m r).1, (manyL take m r).2) := by
  induction h with
  | nil => intro m; simp
  | snoc h ho ih =>
    rename_i xs r
    intro m
    have := ih (m + 1)
    rw [List.length_append, List.length_singleton, Nat.add_assoc, Nat.add_comm 1 m, this]
    simp only [manyL, ho, if_true, List.append_assoc, List.singleton_append]
theorem manyL_len {α : Type} {take : List UInt8 → α × List UInt8 × Bool} : ∀ n b, (manyL take n b).1.length ≤ n
  | 0, b => by simp [manyL]
  | n + 1, b => by
    simp only [manyL]
    split
    · have := manyL_len (take := take) n (take b).2.1
      simp; omega
    · simp
theorem num_len {B : Nat} (b : List UInt8) : (num B b).2.1.length ≤ b.length := tk_len b
theorem Tk.len {α : Type} {take : List UInt8 → α × List UInt8 × Bool} (ht : ∀ b, (take b).2.1.length ≤ b.length) {b : List UInt8} {xs : List α} {r : List UInt8} (h : Tk take b xs r) : r.length ≤ b.length := by
  induction h with
  | nil => exact Nat.le_refl _
  | snoc h ho ih => exact Nat.le_trans (ht _) ih
theorem exp_many3 {T : TypeId} {xs : List Int} {r : List UInt8} {b c : Bool} (hc : b = c) : Exp ⟨[(0, ⟨T, 1, xs.map encI⟩)], 1⟩ (.t [.s 0 0 xs.length, .l 1 (r.map encB), .c (.bool b)]) (.t [.l 1 (xs.map encI), .l 1 (r.map encB), .c (.bool c)]) := by
  subst hc
  exact exp_tA (xT_cons (xA_frz (off := 0) rfl (by simp) rfl (pureI _)) (xT_cons (xA_pure weak_l (.l _ _ (pureB _))) (xT_cons xA_c xT_nil)))
theorem manyI_call (b : List UInt8) (n : Nat) (hl : b.length ≤ 1000000000) (hn : n ≤ 1000) :
    PCall Try.prog 27 [Bs b, .c (.int .i64 n), .f 28 []] (.t [.l 1 ((manyL (num M63) n b).1.map encI), Bs (manyL (num M63) n b).2, .c (.bool (decide ((manyL (num M63) n b).1.length = n)))]) := by
  refine pcall_body tabOk Try.func27 rfl rfl (by rw [Try.ntmps27]; simp) ?_
  simp only [Try.ntmps27, Bs]
  simp only [↓wt, wu, wk0, wk1, wk2, wk3, Nat.reduceAdd, Nat.reduceEqDiff, Nat.reduceLeDiff, Nat.reduceLT, Nat.reduceMul, Int.reduceLE, Int.reduceLT, Int.reduceEq, Int.reduceNe, wk4, laidS, keepS]
  refine scope_rule tabOk ?_
  simp only [↓wt, wu, wk0, wk1, wk2, wk3, Nat.reduceAdd, Nat.reduceEqDiff, Nat.reduceLeDiff, Nat.reduceLT, Nat.reduceMul, Int.reduceLE, Int.reduceLT, Int.reduceEq, Int.reduceNe, wk4, laidS, keepS]
  refine make_room (.inr (by decide)) (by omega) (by dsimp only; omega) (by omega) ?_
  simp only [↓wt, wu, wk0, wk1, wk2, wk3, Nat.reduceAdd, Nat.reduceEqDiff, Nat.reduceLeDiff, Nat.reduceLT, Nat.reduceMul, Int.reduceLE, Int.reduceLT, Int.reduceEq, Int.reduceNe, wk4, laidS, keepS]
  refine loop_ruleM tabOk [1, 2, 15] (fun x : List Int × List UInt8 => [(0, Bs x.2), (9, .s 0 0 x.1.length), (16, .c (.int .i64 x.1.length))]) (fun x => ⟨[(0, ⟨2, 1, x.1.map encI⟩)], 1⟩) (fun x => Tk (num M63) b x.1 x.2 ∧ x.1.length ≤ n) (fun x => n - x.1.length) ([], b) ⟨.nil, by simp⟩ (fun _ => rfl) ?_ ?_
  · simp only [↓wt, wu, wk0, wk1, wk2, wk3, wkf, Nat.reduceAdd, Nat.reduceEqDiff, Nat.reduceLeDiff, Nat.reduceLT, Nat.reduceMul, Int.reduceLE, Int.reduceLT, Int.reduceEq, Int.reduceNe, wk4, laidS, keepS, Bs, under_f]
    try trivial
  · rintro ⟨xs, r⟩ ⟨h1, h2⟩
    dsimp only at h1 h2
    have hr := h1.len num_len
    have e3 := wi_succ (k := xs.length) (by omega)
    simp only [↓wt, wu, wk0, wk1, wk2, wk3, Nat.reduceAdd, Nat.reduceEqDiff, Nat.reduceLeDiff, Nat.reduceLT, Nat.reduceMul, Int.reduceLE, Int.reduceLT, Int.reduceEq, Int.reduceNe, wk4, laidS, keepS, Bs]
    repeat' (first | (refine r_casesD (fun hp hb => ?_) (fun hp hb => ?_) <;> simp only [↓wt, wu, wk0, wk1, wk2, wk3, Nat.reduceAdd, Nat.reduceEqDiff, Nat.reduceLeDiff, Nat.reduceLT, Nat.reduceMul, Int.reduceLE, Int.reduceLT, Int.reduceEq, Int.reduceNe, wk4, laidS, keepS, Bs, hb]) | (refine r_casesN (fun hp hb => ?_) (fun hp hb => ?_) <;> simp only [↓wt, wu, wk0, wk1, wk2, wk3, Nat.reduceAdd, Nat.reduceEqDiff, Nat.reduceLeDiff, Nat.reduceLT, Nat.reduceMul, Int.reduceLE, Int.reduceLT, Int.reduceEq, Int.reduceNe, wk4, laidS, keepS, Bs, hb]) | (refine r_casesM (fun hp hb => ?_) (fun hp hb => ?_) <;> simp only [↓wt, wu, wk0, wk1, wk2, wk3, Nat.reduceAdd, Nat.reduceEqDiff, Nat.reduceLeDiff, Nat.reduceLT, Nat.reduceMul, Int.reduceLE, Int.reduceLT, Int.reduceEq, Int.reduceNe, wk4, laidS, keepS, Bs, hb]) | (refine r_casesB (fun hp hb => ?_) (fun hp hb => ?_) <;> simp only [↓wt, wu, wk0, wk1, wk2, wk3, Nat.reduceAdd, Nat.reduceEqDiff, Nat.reduceLeDiff, Nat.reduceLT, Nat.reduceMul, Int.reduceLE, Int.reduceLT, Int.reduceEq, Int.reduceNe, wk4, laidS, keepS, Bs, hb]) | (refine r_gcasesD (fun hp hb => ?_) (fun hp hb => ?_) <;> simp only [↓wt, wu, wk0, wk1, wk2, wk3, Nat.reduceAdd, Nat.reduceEqDiff, Nat.reduceLeDiff, Nat.reduceLT, Nat.reduceMul, Int.reduceLE, Int.reduceLT, Int.reduceEq, Int.reduceNe, wk4, laidS, keepS, Bs, hb]) | (refine r_gcasesN (fun hp hb => ?_) (fun hp hb => ?_) <;> simp only [↓wt, wu, wk0, wk1, wk2, wk3, Nat.reduceAdd, Nat.reduceEqDiff, Nat.reduceLeDiff, Nat.reduceLT, Nat.reduceMul, Int.reduceLE, Int.reduceLT, Int.reduceEq, Int.reduceNe, wk4, laidS, keepS, Bs, hb]) | (refine r_gcasesM (fun hp hb => ?_) (fun hp hb => ?_) <;> simp only [↓wt, wu, wk0, wk1, wk2, wk3, Nat.reduceAdd, Nat.reduceEqDiff, Nat.reduceLeDiff, Nat.reduceLT, Nat.reduceMul, Int.reduceLE, Int.reduceLT, Int.reduceEq, Int.reduceNe, wk4, laidS, keepS, Bs, hb]) | (refine r_gcasesB (fun hp hb => ?_) (fun hp hb => ?_) <;> simp only [↓wt, wu, wk0, wk1, wk2, wk3, Nat.reduceAdd, Nat.reduceEqDiff, Nat.reduceLeDiff, Nat.reduceLT, Nat.reduceMul, Int.reduceLE, Int.reduceLT, Int.reduceEq, Int.reduceNe, wk4, laidS, keepS, Bs, hb]) | ((with_reducible refine And.intro ?_ ?_); omega) | fail)
    · have h3 : xs.length < n := by omega
      refine icall_drop [] (number_call r (by omega)) ⟨arg_l (pureB _), trivial⟩ okR_take ?_
      simp only [↓wt, wu, wk0, wk1, wk2, wk3, Nat.reduceAdd, Nat.reduceEqDiff, Nat.reduceLeDiff, Nat.reduceLT, Nat.reduceMul, Int.reduceLE, Int.reduceLT, Int.reduceEq, Int.reduceNe, wk4, laidS, keepS, Bs]
      cases ho : (num M63 r).2.2
      · have hm := h1.many (n - xs.length)
        rw [show xs.length + (n - xs.length) = n by omega, show n - xs.length = (n - xs.length - 1) + 1 by omega] at hm
        simp only [manyL, ho, Bool.false_eq_true, if_false, List.append_nil] at hm
        simp only [↓wt, wu, wk0, wk1, wk2, wk3, Nat.reduceAdd, Nat.reduceEqDiff, Nat.reduceLeDiff, Nat.reduceLT, Nat.reduceMul, Int.reduceLE, Int.reduceLT, Int.reduceEq, Int.reduceNe, wk4, laidS, keepS, ho, Bs, Try.results27]
        rw [hm]
        exact exp_many3 (by rw [decide_eq_decide]; dsimp only; omega)
      · simp only [↓wt, wu, wk0, wk1, wk2, wk3, Nat.reduceAdd, Nat.reduceEqDiff, Nat.reduceLeDiff, Nat.reduceLT, Nat.reduceMul, Int.reduceLE, Int.reduceLT, Int.reduceEq, Int.reduceNe, wk4, laidS, keepS, ho, Bs]
        refine ⟨by omega, (xs ++ [(num M63 r).1], (num M63 r).2.1), ⟨h1.snoc ho, by simp; omega⟩, by simp; omega, ?_⟩
        simp only [↓wt, wu, wk0, wk1, wk2, wk3, wkf, Nat.reduceAdd, Nat.reduceEqDiff, Nat.reduceLeDiff, Nat.reduceLT, Nat.reduceMul, Int.reduceLE, Int.reduceLT, Int.reduceEq, Int.reduceNe, wk4, laidS, keepS, Bs, e3, under_f, List.length_append, List.map_append, underL_append, underL_I, encI_eq]
        try trivial
    · have hn2 : xs.length = n := by omega
      have hm := h1.many 0
      simp only [manyL, Nat.add_zero, List.append_nil, hn2] at hm
      simp only [↓wt, wu, wk0, wk1, wk2, wk3, Nat.reduceAdd, Nat.reduceEqDiff, Nat.reduceLeDiff, Nat.reduceLT, Nat.reduceMul, Int.reduceLE, Int.reduceLT, Int.reduceEq, Int.reduceNe, wk4, laidS, keepS, Bs, Try.results27]
      rw [hm]
      exact exp_many3 (by rw [decide_eq_decide]; dsimp only; omega)
/-- A row, as its bytes tell it. -/
noncomputable def rowT (B n : Nat) (b : List UInt8) : RowD × List UInt8 × Bool :=
  if (manyL (num B) (n + 2) b).1.length = n + 2 then (⟨(manyL (num B) (n + 2) b).1.getD 0 0, (manyL (num B) (n + 2) b).1.getD 1 0, (manyL (num B) (n + 2) b).1.drop 2⟩, (manyL (num B) (n + 2) b).2, true) else (⟨0, 0, []⟩, [], false)
theorem okR_many {xs : List Int} {r : List UInt8} {c : Value} : OkR (Under 0) (.t [.l 1 (xs.map encI), Bs r, .c c]) := ⟨.l _ _ (pureI _), .l _ _ (pureB _), .c _, trivial⟩
theorem xA_row {M : Mem} {r : RowD} : ∃ f, ExpA M (RowV r) (RowV r) [] f :=
  xA_pure (by show WeakL _ _; exact (show ResL [.c (.int .i64 r.i), .c (.int .i64 r.u), .l 1 (r.o.map encI)] [.c (.int .i64 r.i), .c (.int .i64 r.u), .l 1 (r.o.map encI)] from ⟨.refl _, .c _, .refl _, .c _, .refl _, .l _ _ (pureI _), trivial⟩).weak.1) (arg_rowV (M := M) (ids := [])).2.2.2
theorem xA_row0 {M : Mem} : ∃ f, ExpA M (.g [.c (.int .i64 0), .c (.int .i64 0), .c (.slice none 0 0)]) (RowV ⟨0, 0, []⟩) [] f :=
  xA_pure (by show WeakL _ _; exact (show ResL [.c (.int .i64 0), .c (.int .i64 0), .c (.slice none 0 0)] [.c (.int .i64 0), .c (.int .i64 0), .l 1 []] from ⟨.refl _, .c _, .refl _, .c _, trivial, okR_nil, trivial⟩).weak.1) (arg_rowV (M := M) (ids := [])).2.2.2
theorem xA_Bs {M : Mem} {r : List UInt8} : ∃ f, ExpA M (.l 1 (r.map encB)) (.l 1 (r.map encB)) [] f := xA_pure weak_l (.l _ _ (pureB _))
theorem exp_take0 {M : Mem} {sz : Nat} : Exp M (.t [.c (.slice none 0 0), .c (.slice none 0 0), .c (.bool false)]) (.t [.l sz [], .l 1 [], .c (.bool false)]) := exp_tA (xT_cons xA_nil (xT_cons xA_nil (xT_cons xA_c xT_nil)))
theorem takef_call (c : Conf) (b : List UInt8) (hl : b.length ≤ 1000000000) (hn : 1 ≤ c.n ∧ c.n ≤ 16) :
    PCall Try.prog 26 [Bs b, .e [.c (.int .i64 c.n), .c (.int .i64 c.q), .c (.int .i64 c.r), .c (.int .i64 c.p), .c (.int .i64 c.k), .c (.int .i64 c.c)]] (.t [RowV (rowT M63 c.n.toNat b).1, Bs (rowT M63 c.n.toNat b).2.1, .c (.bool (rowT M63 c.n.toNat b).2.2)]) := by
  obtain ⟨n, hcn⟩ : ∃ n : Nat, c.n = n := ⟨c.n.toNat, by omega⟩
  have m1 := manyI_call b (n + 2) hl (by omega)
  have e1 : IntKind.i64.wrap (c.n + 2) = ((n + 2 : Nat) : Int) := by rw [wrap_i64 (by omega) (by omega)]; omega
  have hnt : c.n.toNat = n := by omega
  refine pcall_body tabOk Try.func26 rfl rfl (by rw [Try.ntmps26]; simp) ?_
  simp only [Try.ntmps26, Bs]
  simp only [↓wt, wu, wk0, wk1, wk2, wk3, Nat.reduceAdd, Nat.reduceEqDiff, Nat.reduceLeDiff, Nat.reduceLT, Nat.reduceMul, Int.reduceLE, Int.reduceLT, Int.reduceEq, Int.reduceNe, wk4, laidS, keepS, e1]
  refine icall_drop [] m1 ⟨arg_l (pureB _), arg_c, arg_f, trivial⟩ okR_many ?_
  simp only [↓wt, wu, wk0, wk1, wk2, wk3, Nat.reduceAdd, Nat.reduceEqDiff, Nat.reduceLeDiff, Nat.reduceLT, Nat.reduceMul, Int.reduceLE, Int.reduceLT, Int.reduceEq, Int.reduceNe, wk4, laidS, keepS, Bs]
  repeat' (first | (refine r_casesD (fun hp hb => ?_) (fun hp hb => ?_) <;> simp only [↓wt, wu, wk0, wk1, wk2, wk3, Nat.reduceAdd, Nat.reduceEqDiff, Nat.reduceLeDiff, Nat.reduceLT, Nat.reduceMul, Int.reduceLE, Int.reduceLT, Int.reduceEq, Int.reduceNe, wk4, laidS, keepS, Try.results26, hb]) | (refine r_casesN (fun hp hb => ?_) (fun hp hb => ?_) <;> simp only [↓wt, wu, wk0, wk1, wk2, wk3, Nat.reduceAdd, Nat.reduceEqDiff, Nat.reduceLeDiff, Nat.reduceLT, Nat.reduceMul, Int.reduceLE, Int.reduceLT, Int.reduceEq, Int.reduceNe, wk4, laidS, keepS, Try.results26, hb]) | (refine r_casesM (fun hp hb => ?_) (fun hp hb => ?_) <;> simp only [↓wt, wu, wk0, wk1, wk2, wk3, Nat.reduceAdd, Nat.reduceEqDiff, Nat.reduceLeDiff, Nat.reduceLT, Nat.reduceMul, Int.reduceLE, Int.reduceLT, Int.reduceEq, Int.reduceNe, wk4, laidS, keepS, Try.results26, hb]) | (refine r_casesB (fun hp hb => ?_) (fun hp hb => ?_) <;> simp only [↓wt, wu, wk0, wk1, wk2, wk3, Nat.reduceAdd, Nat.reduceEqDiff, Nat.reduceLeDiff, Nat.reduceLT, Nat.reduceMul, Int.reduceLE, Int.reduceLT, Int.reduceEq, Int.reduceNe, wk4, laidS, keepS, Try.results26, hb]) | (refine r_gcasesD (fun hp hb => ?_) (fun hp hb => ?_) <;> simp only [↓wt, wu, wk0, wk1, wk2, wk3, Nat.reduceAdd, Nat.reduceEqDiff, Nat.reduceLeDiff, Nat.reduceLT, Nat.reduceMul, Int.reduceLE, Int.reduceLT, Int.reduceEq, Int.reduceNe, wk4, laidS, keepS, Try.results26, hb]) | (refine r_gcasesN (fun hp hb => ?_) (fun hp hb => ?_) <;> simp only [↓wt, wu, wk0, wk1, wk2, wk3, Nat.reduceAdd, Nat.reduceEqDiff, Nat.reduceLeDiff, Nat.reduceLT, Nat.reduceMul, Int.reduceLE, Int.reduceLT, Int.reduceEq, Int.reduceNe, wk4, laidS, keepS, Try.results26, hb]) | (refine r_gcasesM (fun hp hb => ?_) (fun hp hb => ?_) <;> simp only [↓wt, wu, wk0, wk1, wk2, wk3, Nat.reduceAdd, Nat.reduceEqDiff, Nat.reduceLeDiff, Nat.reduceLT, Nat.reduceMul, Int.reduceLE, Int.reduceLT, Int.reduceEq, Int.reduceNe, wk4, laidS, keepS, Try.results26, hb]) | (refine r_gcasesB (fun hp hb => ?_) (fun hp hb => ?_) <;> simp only [↓wt, wu, wk0, wk1, wk2, wk3, Nat.reduceAdd, Nat.reduceEqDiff, Nat.reduceLeDiff, Nat.reduceLT, Nat.reduceMul, Int.reduceLE, Int.reduceLT, Int.reduceEq, Int.reduceNe, wk4, laidS, keepS, Try.results26, hb]) | ((with_reducible refine And.intro ?_ ?_); omega) | fail)
  · have hm : n + 2 = (manyL (num M63) (n + 2) b).1.length := hp.symm
    refine draw_rule tabOk mixed [0, 0, 0, 0, 0, 0, 0, 0, 1, 0, 1, 0, 0] [[], [0], [0, 1], [], [3], [3, 4], [], [6], [0, 1, 2, 3, 4, 5, 6, 7], [], [0, 1, 2, 3, 4, 5, 6, 7, 8], [0, 1, 2, 3, 4, 5, 6, 7, 8, 9, 10], [0, 1, 2, 3, 4, 5, 6, 7, 8, 9, 10, 11]] (by kernel_rfl) ?_
    simp only [↓wt, wu, wk0, wk1, wk2, wk3, Nat.reduceAdd, Nat.reduceEqDiff, Nat.reduceLeDiff, Nat.reduceLT, Nat.reduceMul, Int.reduceLE, Int.reduceLT, Int.reduceEq, Int.reduceNe, wk4, laidS, keepS, elem_I]
    repeat (refine And.intro (by omega) ?_)
    refine d_heavyX (by simp only [↓wt, wu, wk0, wk1, wk2, wk3, Nat.reduceAdd, Nat.reduceEqDiff, Nat.reduceLeDiff, Nat.reduceLT, Nat.reduceMul, Int.reduceLE, Int.reduceLT, Int.reduceEq, Int.reduceNe, wk4, laidS, keepS]; (repeat (first | refine And.intro (by omega) ?_ | refine And.intro (pureB _) ?_ | refine And.intro (pureI _) ?_ | refine And.intro ⟨pureB _, pureB _⟩ ?_ | refine And.intro ⟨pureB _, pureI _⟩ ?_ | refine And.intro ⟨pureI _, pureB _⟩ ?_ | refine And.intro ⟨pureI _, pureI _⟩ ?_)); exact ⟨rfl, rfl⟩) ?_
    simp only [↓wt, wu, wk0, wk1, wk2, wk3, Nat.reduceAdd, Nat.reduceEqDiff, Nat.reduceLeDiff, Nat.reduceLT, Nat.reduceMul, Int.reduceLE, Int.reduceLT, Int.reduceEq, Int.reduceNe, wk4, laidS, keepS]
    refine d_heavyX (by simp only [↓wt, wu, wk0, wk1, wk2, wk3, Nat.reduceAdd, Nat.reduceEqDiff, Nat.reduceLeDiff, Nat.reduceLT, Nat.reduceMul, Int.reduceLE, Int.reduceLT, Int.reduceEq, Int.reduceNe, wk4, laidS, keepS, Cell]; (repeat (first | refine And.intro (by omega) ?_ | refine And.intro (pureB _) ?_ | refine And.intro (pureI _) ?_ | refine And.intro ⟨pureB _, pureB _⟩ ?_ | refine And.intro ⟨pureB _, pureI _⟩ ?_ | refine And.intro ⟨pureI _, pureB _⟩ ?_ | refine And.intro ⟨pureI _, pureI _⟩ ?_)); exact ⟨rfl, rfl⟩) ?_
    simp only [↓wt, wu, wk0, wk1, wk2, wk3, Nat.reduceAdd, Nat.reduceEqDiff, Nat.reduceLeDiff, Nat.reduceLT, Nat.reduceMul, Int.reduceLE, Int.reduceLT, Int.reduceEq, Int.reduceNe, wk4, laidS, keepS, Try.results26]
    have e : rowT M63 n b = (⟨(manyL (num M63) (n + 2) b).1.getD 0 0, (manyL (num M63) (n + 2) b).1.getD 1 0, (manyL (num M63) (n + 2) b).1.drop 2⟩, (manyL (num M63) (n + 2) b).2, true) := by rw [rowT, if_pos hp]
    rw [hnt, e]
    exact exp_tA (xT_cons (xA_row (r := ⟨_, _, _⟩)) (xT_cons xA_Bs (xT_cons xA_c xT_nil)))
  · have e : rowT M63 n b = (⟨0, 0, []⟩, [], false) := by rw [rowT, if_neg hp]
    rw [hnt, e]
    exact exp_tA (xT_cons xA_row0 (xT_cons xA_nil (xT_cons xA_c xT_nil)))
theorem manyL_rest {α : Type} {take : List UInt8 → α × List UInt8 × Bool} (ht : ∀ b, (take b).2.1.length ≤ b.length) : ∀ n b, (manyL take n b).2.length ≤ b.length
  | 0, b => by simp [manyL]
  | n + 1, b => by
    simp only [manyL]
    split
    · exact Nat.le_trans (manyL_rest ht n _) (ht b)
    · exact Nat.le_refl _
theorem rowT_len (B n : Nat) (b : List UInt8) : (rowT B n b).2.1.length ≤ b.length := by
  unfold rowT
  split
  · exact manyL_rest num_len _ _
  · simp
theorem okR_takeR {r : RowD} {b : List UInt8} {v : Value} : OkR (Under 0) (.t [RowV r, Bs b, .c v]) := ⟨⟨.c _, .c _, .l _ _ (pureI _), trivial⟩, okR_Bs, .c _, trivial⟩
theorem exp_manyR {T : TypeId} {xs : List RowD} {r : List UInt8} {b c : Bool} (hc : b = c) : Exp ⟨[(0, ⟨T, 3, xs.map RowV⟩)], 1⟩ (.t [.s 0 0 xs.length, .l 1 (r.map encB), .c (.bool b)]) (.t [BooksV xs, .l 1 (r.map encB), .c (.bool c)]) := by
  subst hc
  exact exp_tA (xT_cons (xA_frz (off := 0) rfl (by simp) rfl (pureR _)) (xT_cons xA_Bs (xT_cons xA_c xT_nil)))
theorem manyR_call (c : Conf) (b : List UInt8) (hl : b.length ≤ 1000000000) (hn : 1 ≤ c.n ∧ c.n ≤ 16) :
    PCall Try.prog 25 [Bs b, .c (.int .i64 c.n), .f 26 [.e [.c (.int .i64 c.n), .c (.int .i64 c.q), .c (.int .i64 c.r), .c (.int .i64 c.p), .c (.int .i64 c.k), .c (.int .i64 c.c)]]]
      (.t [BooksV (manyL (rowT M63 c.n.toNat) c.n.toNat b).1, Bs (manyL (rowT M63 c.n.toNat) c.n.toNat b).2, .c (.bool (decide ((manyL (rowT M63 c.n.toNat) c.n.toNat b).1.length = c.n.toNat)))]) := by
  obtain ⟨n, hcn⟩ : ∃ n : Nat, c.n = n := ⟨c.n.toNat, by omega⟩
  have hnt : c.n.toNat = n := by omega
  refine pcall_body tabOk Try.func25 rfl rfl (by rw [Try.ntmps25]; simp) ?_
  simp only [Try.ntmps25, Bs, hnt]
  simp only [↓wt, wu, wk0, wk1, wk2, wk3, Nat.reduceAdd, Nat.reduceEqDiff, Nat.reduceLeDiff, Nat.reduceLT, Nat.reduceMul, Int.reduceLE, Int.reduceLT, Int.reduceEq, Int.reduceNe, wk4, laidS, keepS]
  refine scope_rule tabOk ?_
  simp only [↓wt, wu, wk0, wk1, wk2, wk3, Nat.reduceAdd, Nat.reduceEqDiff, Nat.reduceLeDiff, Nat.reduceLT, Nat.reduceMul, Int.reduceLE, Int.reduceLT, Int.reduceEq, Int.reduceNe, wk4, laidS, keepS]
  refine make_room (.inr (by decide)) (by omega) (by dsimp only; omega) (by omega) ?_
  simp only [↓wt, wu, wk0, wk1, wk2, wk3, Nat.reduceAdd, Nat.reduceEqDiff, Nat.reduceLeDiff, Nat.reduceLT, Nat.reduceMul, Int.reduceLE, Int.reduceLT, Int.reduceEq, Int.reduceNe, wk4, laidS, keepS]
  refine loop_ruleM tabOk [1, 2, 15] (fun x : List RowD × List UInt8 => [(0, Bs x.2), (9, .s 0 0 x.1.length), (16, .c (.int .i64 x.1.length))]) (fun x => ⟨[(0, ⟨47, 3, x.1.map RowV⟩)], 1⟩) (fun x => Tk (rowT M63 n) b x.1 x.2 ∧ x.1.length ≤ n) (fun x => n - x.1.length) ([], b) ⟨.nil, by simp⟩ (fun _ => rfl) ?_ ?_
  · simp only [↓wt, wu, wk0, wk1, wk2, wk3, wkf, Nat.reduceAdd, Nat.reduceEqDiff, Nat.reduceLeDiff, Nat.reduceLT, Nat.reduceMul, Int.reduceLE, Int.reduceLT, Int.reduceEq, Int.reduceNe, wk4, laidS, keepS, Bs, under_f, under_e]
    try trivial
  · rintro ⟨xs, r⟩ ⟨h1, h2⟩
    dsimp only at h1 h2
    have hr := h1.len (rowT_len _ n)
    have e3 := wi_succ (k := xs.length) (by omega)
    simp only [↓wt, wu, wk0, wk1, wk2, wk3, Nat.reduceAdd, Nat.reduceEqDiff, Nat.reduceLeDiff, Nat.reduceLT, Nat.reduceMul, Int.reduceLE, Int.reduceLT, Int.reduceEq, Int.reduceNe, wk4, laidS, keepS, Bs]
    repeat' (first | (refine r_casesD (fun hp hb => ?_) (fun hp hb => ?_) <;> simp only [↓wt, wu, wk0, wk1, wk2, wk3, Nat.reduceAdd, Nat.reduceEqDiff, Nat.reduceLeDiff, Nat.reduceLT, Nat.reduceMul, Int.reduceLE, Int.reduceLT, Int.reduceEq, Int.reduceNe, wk4, laidS, keepS, Bs, hb]) | (refine r_casesN (fun hp hb => ?_) (fun hp hb => ?_) <;> simp only [↓wt, wu, wk0, wk1, wk2, wk3, Nat.reduceAdd, Nat.reduceEqDiff, Nat.reduceLeDiff, Nat.reduceLT, Nat.reduceMul, Int.reduceLE, Int.reduceLT, Int.reduceEq, Int.reduceNe, wk4, laidS, keepS, Bs, hb]) | (refine r_casesM (fun hp hb => ?_) (fun hp hb => ?_) <;> simp only [↓wt, wu, wk0, wk1, wk2, wk3, Nat.reduceAdd, Nat.reduceEqDiff, Nat.reduceLeDiff, Nat.reduceLT, Nat.reduceMul, Int.reduceLE, Int.reduceLT, Int.reduceEq, Int.reduceNe, wk4, laidS, keepS, Bs, hb]) | (refine r_casesB (fun hp hb => ?_) (fun hp hb => ?_) <;> simp only [↓wt, wu, wk0, wk1, wk2, wk3, Nat.reduceAdd, Nat.reduceEqDiff, Nat.reduceLeDiff, Nat.reduceLT, Nat.reduceMul, Int.reduceLE, Int.reduceLT, Int.reduceEq, Int.reduceNe, wk4, laidS, keepS, Bs, hb]) | (refine r_gcasesD (fun hp hb => ?_) (fun hp hb => ?_) <;> simp only [↓wt, wu, wk0, wk1, wk2, wk3, Nat.reduceAdd, Nat.reduceEqDiff, Nat.reduceLeDiff, Nat.reduceLT, Nat.reduceMul, Int.reduceLE, Int.reduceLT, Int.reduceEq, Int.reduceNe, wk4, laidS, keepS, Bs, hb]) | (refine r_gcasesN (fun hp hb => ?_) (fun hp hb => ?_) <;> simp only [↓wt, wu, wk0, wk1, wk2, wk3, Nat.reduceAdd, Nat.reduceEqDiff, Nat.reduceLeDiff, Nat.reduceLT, Nat.reduceMul, Int.reduceLE, Int.reduceLT, Int.reduceEq, Int.reduceNe, wk4, laidS, keepS, Bs, hb]) | (refine r_gcasesM (fun hp hb => ?_) (fun hp hb => ?_) <;> simp only [↓wt, wu, wk0, wk1, wk2, wk3, Nat.reduceAdd, Nat.reduceEqDiff, Nat.reduceLeDiff, Nat.reduceLT, Nat.reduceMul, Int.reduceLE, Int.reduceLT, Int.reduceEq, Int.reduceNe, wk4, laidS, keepS, Bs, hb]) | (refine r_gcasesB (fun hp hb => ?_) (fun hp hb => ?_) <;> simp only [↓wt, wu, wk0, wk1, wk2, wk3, Nat.reduceAdd, Nat.reduceEqDiff, Nat.reduceLeDiff, Nat.reduceLT, Nat.reduceMul, Int.reduceLE, Int.reduceLT, Int.reduceEq, Int.reduceNe, wk4, laidS, keepS, Bs, hb]) | ((with_reducible refine And.intro ?_ ?_); omega) | fail)
    · have h3 : xs.length < n := by omega
      have m1 := takef_call c r (by omega) hn
      rw [hnt] at m1
      refine icall_drop [] m1 ⟨arg_l (pureB _), arg_e (by simp only [under_c, List.mem_cons, List.not_mem_nil, or_false, forall_eq_or_imp, forall_eq, and_self]), trivial⟩ okR_takeR ?_
      simp only [↓wt, wu, wk0, wk1, wk2, wk3, Nat.reduceAdd, Nat.reduceEqDiff, Nat.reduceLeDiff, Nat.reduceLT, Nat.reduceMul, Int.reduceLE, Int.reduceLT, Int.reduceEq, Int.reduceNe, wk4, laidS, keepS, Bs, RowV_eq]
      cases ho : (rowT M63 n r).2.2
      · have hm := h1.many (n - xs.length)
        rw [show xs.length + (n - xs.length) = n by omega, show n - xs.length = (n - xs.length - 1) + 1 by omega] at hm
        simp only [manyL, ho, Bool.false_eq_true, if_false, List.append_nil] at hm
        simp only [↓wt, wu, wk0, wk1, wk2, wk3, Nat.reduceAdd, Nat.reduceEqDiff, Nat.reduceLeDiff, Nat.reduceLT, Nat.reduceMul, Int.reduceLE, Int.reduceLT, Int.reduceEq, Int.reduceNe, wk4, laidS, keepS, ho, Bs, RowV_eq, Try.results25]
        rw [hm]
        exact exp_manyR (by rw [decide_eq_decide]; dsimp only; omega)
      · simp only [↓wt, wu, wk0, wk1, wk2, wk3, Nat.reduceAdd, Nat.reduceEqDiff, Nat.reduceLeDiff, Nat.reduceLT, Nat.reduceMul, Int.reduceLE, Int.reduceLT, Int.reduceEq, Int.reduceNe, wk4, laidS, keepS, ho, Bs, RowV_eq, Cell]
        refine ⟨by omega, (xs ++ [(rowT M63 n r).1], (rowT M63 n r).2.1), ⟨h1.snoc ho, by simp; omega⟩, by simp; omega, ?_⟩
        simp only [↓wt, wu, wk0, wk1, wk2, wk3, wkf, Nat.reduceAdd, Nat.reduceEqDiff, Nat.reduceLeDiff, Nat.reduceLT, Nat.reduceMul, Int.reduceLE, Int.reduceLT, Int.reduceEq, Int.reduceNe, wk4, laidS, keepS, Bs, e3, under_f, under_e, List.length_append, List.map_append, underL_append, underL_R, RowV_eq]
        try trivial
    · have hn2 : xs.length = n := by omega
      have hm := h1.many 0
      simp only [manyL, Nat.add_zero, List.append_nil, hn2] at hm
      simp only [↓wt, wu, wk0, wk1, wk2, wk3, Nat.reduceAdd, Nat.reduceEqDiff, Nat.reduceLeDiff, Nat.reduceLT, Nat.reduceMul, Int.reduceLE, Int.reduceLT, Int.reduceEq, Int.reduceNe, wk4, laidS, keepS, Bs, Try.results25]
      rw [hm]
      exact exp_manyR (by rw [decide_eq_decide]; dsimp only; omega)
end Go.Ab
