/- Tapes: the laws. -/
import Derived.Test.YtpjmbigfgoogaacAb37
import Derived.Test.YtpjmbigfgoogaacTp7
set_option linter.unusedSimpArgs false
set_option linter.unusedVariables false
set_option linter.constructorNameAsVariable false
set_option maxRecDepth 100000
namespace Go.Ab
open Go Go.Proofs Go.RowKit

theorem bytes_ab : [AV.c (Value.int IntKind.u8 97), AV.c (Value.int IntKind.u8 98)] = [97, 98].map encB := rfl
theorem bytes_cd : [AV.c (Value.int IntKind.u8 99), AV.c (Value.int IntKind.u8 100)] = [99, 100].map encB := rfl
set_option maxHeartbeats 2000000 in
theorem awake_call : PCall Try.prog 6 [] (.c (.bool true)) := by
  refine pcall_body tabOk Try.func6 rfl rfl (by rw [Try.ntmps6]; simp) ?_
  simp only [Try.ntmps6]
  simp only [↓wt, wu, wk0, wk1, wk2, wk3, Nat.reduceAdd, Nat.reduceEqDiff, Nat.reduceLeDiff, Nat.reduceLT, Nat.reduceMul, Int.reduceLE, Int.reduceLT, Int.reduceEq, Int.reduceNe, List.flatMap_cons, List.flatMap_nil]
  refine ⟨by rw [bytes_ab]; exact pureB _, by rw [bytes_cd]; exact pureB _, ?_⟩
  have e1 : wrT ⟨[97, 98], [], [], []⟩ false [99, 100] = ⟨[97, 98], [99, 100], [], []⟩ := by simp [wrT, Tape4.n, total]
  have e2 : wrC ⟨[97, 98], [], [], []⟩ [99, 100] = 0 := by simp [wrC, Tape4.n, total]
  have e3 : loT ⟨[97, 98], [99, 100], [], []⟩ 1 = ⟨[97, 98, 99], [], [], []⟩ := by simp [loT]
  have w := write_call ⟨[97, 98], [], [], []⟩ false [99, 100] (by simp [Tape4.Fit, Fit8]) (by simp)
  have l := lose_call ⟨[97, 98], [99, 100], [], []⟩ 1 (by omega) (by omega) (by simp [Tape4.Fit, Fit8])
  rw [e1, e2] at w
  rw [e3] at l
  rw [bytes_ab, bytes_cd]
  clear e1 e2 e3
  have e4 : decide ((⟨([97, 98, 99] : List UInt8).toArray⟩ : ByteArray) = ⟨#[97, 98, 99]⟩) = true := by decide
  generalize hab : ([97, 98] : List UInt8) = ab at *
  generalize hcd : ([99, 100] : List UInt8) = cd at *
  generalize habc : ([97, 98, 99] : List UInt8) = abc at *
  refine icall_drop [] w ⟨arg_gL ⟨argC_B, argC_nil, argC_nil, argC_nil, trivial⟩, arg_c, arg_l (pureB _), trivial⟩ okR_wr ?_
  simp only [↓wt, wu, wk0, wk1, wk2, wk3, Nat.reduceAdd, Nat.reduceEqDiff, Nat.reduceLeDiff, Nat.reduceLT, Nat.reduceMul, Int.reduceLE, Int.reduceLT, Int.reduceEq, Int.reduceNe, List.flatMap_cons, List.flatMap_nil, tv, TapeA, Bs]
  refine icall_drop [] l ⟨arg_tape (a := ab) (b := cd) (c := []) (d := []), arg_c, trivial⟩ okR_tape ?_
  simp only [↓wt, wu, wk0, wk1, wk2, wk3, Nat.reduceAdd, Nat.reduceEqDiff, Nat.reduceLeDiff, Nat.reduceLT, Nat.reduceMul, Int.reduceLE, Int.reduceLT, Int.reduceEq, Int.reduceNe, List.flatMap_cons, List.flatMap_nil, tv, TapeA, Bs, Try.results6]
  exact exp_c
def mkT (sp : Bool) (x y : List UInt8) : Tape4 := bif sp then ⟨[], [], x, y⟩ else ⟨x, y, [], []⟩
theorem mk_wr {sp : Bool} {x y z : List UInt8} (h : x.length + y.length + z.length ≤ 65536) : wrT (mkT sp x y) sp z = mkT sp x (y ++ z) ∧ wrC (mkT sp x y) z = 0 := by
  have h1 : x.length + y.length ≤ 65536 := by omega
  cases sp <;> simp [wrT, wrC, mkT, Tape4.n, total, h1, h]
theorem mk_sy {sp : Bool} {x y : List UInt8} : syT (mkT sp x y) sp = mkT sp (x ++ y) [] := by cases sp <;> simp [syT, mkT]
theorem mk_lo {sp : Bool} {x y : List UInt8} {n : Int} : loT (mkT sp x y) n = mkT sp (x ++ y.take n.toNat) [] := by cases sp <;> simp [loT, mkT]
theorem mk_fit {sp : Bool} {x y : List UInt8} (hx : x.length ≤ 100000000) (hy : y.length ≤ 100000000) : (mkT sp x y).Fit := by cases sp <;> simp [Tape4.Fit, Fit8, mkT, hx, hy]
theorem tv_nil {sp : Bool} : tv (mkT sp [] []) = .g [.l 1 [], .l 1 [], .l 1 [], .l 1 []] := by cases sp <;> rfl
theorem arg_nil4 {M : Mem} {ids : List Nat} : VOkA M (.g [.c (.slice none 0 0), .c (.slice none 0 0), .c (.slice none 0 0), .c (.slice none 0 0)]) ∧ (∀ k ∈ idsA (.g [.c (.slice none 0 0), .c (.slice none 0 0), .c (.slice none 0 0), .c (.slice none 0 0)]), k ∈ ids) ∧
    Weak (viewA M (.g [.c (.slice none 0 0), .c (.slice none 0 0), .c (.slice none 0 0), .c (.slice none 0 0)])) (.g [.l 1 [], .l 1 [], .l 1 [], .l 1 []]) ∧ Under 0 (.g [.l 1 [], .l 1 [], .l 1 [], .l 1 []]) := arg_gL ⟨argC_nil, argC_nil, argC_nil, argC_nil, trivial⟩
theorem arg_tvE {M : Mem} {ids : List Nat} {x1 x2 x3 x4 : List AV} {t : Tape4} (h1 : x1 = t.a.map encB) (h2 : x2 = t.b.map encB) (h3 : x3 = t.c.map encB) (h4 : x4 = t.d.map encB) : VOkA M (.g [.l 1 x1, .l 1 x2, .l 1 x3, .l 1 x4]) ∧
    (∀ k ∈ idsA (.g [.l 1 x1, .l 1 x2, .l 1 x3, .l 1 x4]), k ∈ ids) ∧ Weak (viewA M (.g [.l 1 x1, .l 1 x2, .l 1 x3, .l 1 x4])) (tv t) ∧ Under 0 (tv t) := by
  subst h1 h2 h3 h4; exact arg_tape
theorem pure_tv {x1 x2 x3 x4 : List AV} {t : Tape4} (h1 : x1 = t.a.map encB) (h2 : x2 = t.b.map encB) (h3 : x3 = t.c.map encB) (h4 : x4 = t.d.map encB) : PureL [.g [.l 1 x1, .l 1 x2, .l 1 x3, .l 1 x4]] := by
  subst h1 h2 h3 h4
  simp only [pureL_eq, underL_cons, underL_nil, AV.cells, under_l, underL_B, List.mem_cons, List.not_mem_nil, or_false, forall_eq_or_imp, forall_eq, and_self]
/-- A tape of which cells are missing. -/
theorem arg_gw4 {M : Mem} {ids : List Nat} {l : List AV} {t : Tape4} (h : ArgCL M ids l [Bs t.a, Bs t.b, Bs t.c, Bs t.d]) : VOkA M (.g l) ∧ (∀ k ∈ idsA (.g l), k ∈ ids) ∧ Weak (viewA M (.g l)) (tv t) ∧ Under 0 (tv t) := arg_gL h
set_option maxHeartbeats 4000000 in
theorem tapekeeps_call (p b : List UInt8) (sp : Bool) (n : Int) (h1 : -9223372036854775808 ≤ n) (h2 : n < 9223372036854775808) : PCall Try.prog 3 [Bs p, Bs b, .c (.bool sp), .c (.int .i64 n)] (.c (.bool true)) := by
  refine pcall_body tabOk Try.func3 rfl rfl (by rw [Try.ntmps3]; simp) ?_
  simp only [Try.ntmps3, Bs]
  simp only [↓wt, wu, wk0, wk1, wk2, wk3, Nat.reduceAdd, Nat.reduceEqDiff, Nat.reduceLeDiff, Nat.reduceLT, Nat.reduceMul, Int.reduceLE, Int.reduceLT, Int.reduceEq, Int.reduceNe, List.flatMap_cons, List.flatMap_nil]
  refine icall_drop [] awake_call trivial (.c _) ?_
  simp only [↓wt, wu, wk0, wk1, wk2, wk3, Nat.reduceAdd, Nat.reduceEqDiff, Nat.reduceLeDiff, Nat.reduceLT, Nat.reduceMul, Int.reduceLE, Int.reduceLT, Int.reduceEq, Int.reduceNe, List.flatMap_cons, List.flatMap_nil]
  cases f1 : decide ((p.length : Int) > 20000) with
  | true => simp only [↓wt, wu, wk0, wk1, wk2, wk3, Nat.reduceAdd, Nat.reduceEqDiff, Nat.reduceLeDiff, Nat.reduceLT, Nat.reduceMul, Int.reduceLE, Int.reduceLT, Int.reduceEq, Int.reduceNe, List.flatMap_cons, List.flatMap_nil, Try.results3]; exact exp_c
  | false =>
    simp only [↓wt, wu, wk0, wk1, wk2, wk3, Nat.reduceAdd, Nat.reduceEqDiff, Nat.reduceLeDiff, Nat.reduceLT, Nat.reduceMul, Int.reduceLE, Int.reduceLT, Int.reduceEq, Int.reduceNe, List.flatMap_cons, List.flatMap_nil]
    cases f2 : decide ((b.length : Int) > 20000) with
    | true => simp only [↓wt, wu, wk0, wk1, wk2, wk3, Nat.reduceAdd, Nat.reduceEqDiff, Nat.reduceLeDiff, Nat.reduceLT, Nat.reduceMul, Int.reduceLE, Int.reduceLT, Int.reduceEq, Int.reduceNe, List.flatMap_cons, List.flatMap_nil, Try.results3]; exact exp_c
    | false =>
      have g1 := of_decide_eq_false f1
      have g2 := of_decide_eq_false f2
      have w1 := write_call (mkT sp [] []) sp p (mk_fit (by simp) (by simp)) (by omega)
      rw [(mk_wr (by simp; omega)).1, (mk_wr (by simp; omega)).2, List.nil_append, tv_nil] at w1
      have s1 := sync_call (mkT sp [] p) sp (mk_fit (by simp) (by omega))
      rw [mk_sy, List.nil_append] at s1
      have w2 := write_call (mkT sp p []) sp b (mk_fit (by omega) (by simp)) (by omega)
      rw [(mk_wr (by simp; omega)).1, (mk_wr (by simp; omega)).2, List.nil_append] at w2
      have l1 := lose_call (mkT sp p b) n h1 h2 (mk_fit (by omega) (by omega))
      rw [mk_lo] at l1
      simp only [↓wt, wu, wk0, wk1, wk2, wk3, Nat.reduceAdd, Nat.reduceEqDiff, Nat.reduceLeDiff, Nat.reduceLT, Nat.reduceMul, Int.reduceLE, Int.reduceLT, Int.reduceEq, Int.reduceNe, List.flatMap_cons, List.flatMap_nil]
      refine icall_drop [] w1 ⟨arg_nil4, arg_c, arg_l (pureB _), trivial⟩ okR_wr ?_
      simp only [↓wt, wu, wk0, wk1, wk2, wk3, Nat.reduceAdd, Nat.reduceEqDiff, Nat.reduceLeDiff, Nat.reduceLT, Nat.reduceMul, Int.reduceLE, Int.reduceLT, Int.reduceEq, Int.reduceNe, List.flatMap_cons, List.flatMap_nil, tv, TapeA, Bs]
      refine icall_drop [] s1 ⟨arg_tape, arg_c, trivial⟩ okR_tape ?_
      simp only [↓wt, wu, wk0, wk1, wk2, wk3, Nat.reduceAdd, Nat.reduceEqDiff, Nat.reduceLeDiff, Nat.reduceLT, Nat.reduceMul, Int.reduceLE, Int.reduceLT, Int.reduceEq, Int.reduceNe, List.flatMap_cons, List.flatMap_nil, tv, TapeA, Bs]
      refine icall_drop [] w2 ⟨arg_tape, arg_c, arg_l (pureB _), trivial⟩ okR_wr ?_
      simp only [↓wt, wu, wk0, wk1, wk2, wk3, Nat.reduceAdd, Nat.reduceEqDiff, Nat.reduceLeDiff, Nat.reduceLT, Nat.reduceMul, Int.reduceLE, Int.reduceLT, Int.reduceEq, Int.reduceNe, List.flatMap_cons, List.flatMap_nil, tv, TapeA, Bs]
      refine icall_drop [] l1 ⟨arg_tape, arg_c, trivial⟩ okR_tape ?_
      simp only [↓wt, wu, wk0, wk1, wk2, wk3, Nat.reduceAdd, Nat.reduceEqDiff, Nat.reduceLeDiff, Nat.reduceLT, Nat.reduceMul, Int.reduceLE, Int.reduceLT, Int.reduceEq, Int.reduceNe, List.flatMap_cons, List.flatMap_nil, tv, TapeA, Bs]
      have e1 : (if (b.length : Int) < if 0 > n then 0 else n then (b.length : Int) else if 0 > n then 0 else n) = ((min n.toNat b.length : Nat) : Int) := by split <;> split <;> omega
      have e2 : b.take (min n.toNat b.length) = b.take n.toNat := List.take_eq_take_min.symm
      cases sp with
      | true =>
        simp only [↓wt, wu, wk0, wk1, wk2, wk3, Nat.reduceAdd, Nat.reduceEqDiff, Nat.reduceLeDiff, Nat.reduceLT, Nat.reduceMul, Int.reduceLE, Int.reduceLT, Int.reduceEq, Int.reduceNe, List.flatMap_cons, List.flatMap_nil, mkT, e1]
        refine draw_rule tabOk mixed [0, 0, 0, 0, 0, 0, 0, 0, 2, 0, 0, 0, 0, 0, 2, 2, 0, 2, 0, 0, 0, 2, 0, 0, 0, 0] [[], [0], [0, 1], [0, 1, 2], [0, 1, 2, 3], [0, 1, 2, 3, 4], [0, 1, 2, 3, 4, 5], [0, 1, 2, 3, 4, 5, 6], [0, 1, 2, 3, 4, 5, 6, 7], [0, 1, 2, 3, 4, 5, 6, 7, 8], [0, 1, 2, 3, 4, 5, 6, 7, 8, 9], [0, 1, 2, 3, 4, 5, 6, 7, 8, 9, 10], [0, 1, 2, 3, 4, 5, 6, 7, 8, 9, 10, 11], [0, 1, 2, 3, 4, 5, 6, 7, 8, 9, 10, 11, 12], [0, 1, 2, 3, 4, 5, 6, 7, 8, 9, 10, 11, 12, 13], [0, 1, 2, 3, 4, 5, 6, 7, 8, 9, 10, 11, 12, 13, 14], [0, 1, 2, 3, 4, 5, 6, 7, 8, 9, 10, 11, 12], [0, 1, 2, 3, 4, 5, 6, 7, 8, 9, 10, 11, 12, 16], [0, 1, 2, 3, 4, 5, 6, 7, 8, 9, 10, 11, 12], [0, 1, 2, 3, 4, 5, 6, 7, 8, 9, 10, 11, 12], [0, 1, 2, 3, 4, 5, 6, 7, 8, 9, 10, 11, 12, 18, 19], [0, 1, 2, 3, 4, 5, 6, 7, 8, 9, 10, 11, 12, 18, 19, 20], [0, 1, 2, 3, 4, 5, 6, 7, 8, 9, 10, 11, 12, 16, 17, 18, 19, 20, 21], [0, 1, 2, 3, 4, 5, 6, 7, 8, 9, 10, 11, 12, 13, 14, 15, 16, 17, 18, 19, 20, 21, 22], [0, 1, 2, 3, 4, 5, 6, 7, 8, 9, 10, 11, 12, 13, 14, 15, 16, 17, 18, 19, 20, 21, 22, 23], [0, 1, 2, 3, 4, 5, 6, 7, 8, 9, 10, 11, 12, 13, 14, 15, 16, 17, 18, 19, 20, 21, 22, 23, 24]] (by kernel_rfl) ?_
        simp only [↓wt, wu, wk0, wk1, wk2, wk3, Nat.reduceAdd, Nat.reduceEqDiff, Nat.reduceLeDiff, Nat.reduceLT, Nat.reduceMul, Int.reduceLE, Int.reduceLT, Int.reduceEq, Int.reduceNe, List.flatMap_cons, List.flatMap_nil, mkT, e1, e2]
        refine ⟨by omega, by omega, by rw [List.length_take]; omega, ?_⟩
        simp only [↓wt, wu, wk0, wk1, wk2, wk3, Nat.reduceAdd, Nat.reduceEqDiff, Nat.reduceLeDiff, Nat.reduceLT, Nat.reduceMul, Int.reduceLE, Int.reduceLT, Int.reduceEq, Int.reduceNe, List.flatMap_cons, List.flatMap_nil, Try.results3]
        exact exp_c
      | false =>
        simp only [↓wt, wu, wk0, wk1, wk2, wk3, Nat.reduceAdd, Nat.reduceEqDiff, Nat.reduceLeDiff, Nat.reduceLT, Nat.reduceMul, Int.reduceLE, Int.reduceLT, Int.reduceEq, Int.reduceNe, List.flatMap_cons, List.flatMap_nil, mkT, e1]
        refine draw_rule tabOk mixed [0, 0, 0, 0, 0, 0, 0, 0, 2, 0, 0, 0, 0, 0, 2, 2, 0, 2, 0, 0, 0, 2, 0, 0, 0, 0] [[], [0], [0, 1], [0, 1, 2], [0, 1, 2, 3], [0, 1, 2, 3, 4], [0, 1, 2, 3, 4, 5], [0, 1, 2, 3, 4, 5, 6], [0, 1, 2, 3, 4, 5, 6, 7], [0, 1, 2, 3, 4, 5, 6, 7, 8], [0, 1, 2, 3, 4, 5, 6, 7, 8, 9], [0, 1, 2, 3, 4, 5, 6, 7, 8, 9, 10], [0, 1, 2, 3, 4, 5, 6, 7, 8, 9, 10, 11], [0, 1, 2, 3, 4, 5, 6, 7, 8, 9, 10, 11, 12], [0, 1, 2, 3, 4, 5, 6, 7, 8, 9, 10, 11, 12, 13], [0, 1, 2, 3, 4, 5, 6, 7, 8, 9, 10, 11, 12, 13, 14], [0, 1, 2, 3, 4, 5, 6, 7, 8, 9, 10, 11, 12], [0, 1, 2, 3, 4, 5, 6, 7, 8, 9, 10, 11, 12, 16], [0, 1, 2, 3, 4, 5, 6, 7, 8, 9, 10, 11, 12], [0, 1, 2, 3, 4, 5, 6, 7, 8, 9, 10, 11, 12], [0, 1, 2, 3, 4, 5, 6, 7, 8, 9, 10, 11, 12, 18, 19], [0, 1, 2, 3, 4, 5, 6, 7, 8, 9, 10, 11, 12, 18, 19, 20], [0, 1, 2, 3, 4, 5, 6, 7, 8, 9, 10, 11, 12, 16, 17, 18, 19, 20, 21], [0, 1, 2, 3, 4, 5, 6, 7, 8, 9, 10, 11, 12, 13, 14, 15, 16, 17, 18, 19, 20, 21, 22], [0, 1, 2, 3, 4, 5, 6, 7, 8, 9, 10, 11, 12, 13, 14, 15, 16, 17, 18, 19, 20, 21, 22, 23], [0, 1, 2, 3, 4, 5, 6, 7, 8, 9, 10, 11, 12, 13, 14, 15, 16, 17, 18, 19, 20, 21, 22, 23, 24]] (by kernel_rfl) ?_
        simp only [↓wt, wu, wk0, wk1, wk2, wk3, Nat.reduceAdd, Nat.reduceEqDiff, Nat.reduceLeDiff, Nat.reduceLT, Nat.reduceMul, Int.reduceLE, Int.reduceLT, Int.reduceEq, Int.reduceNe, List.flatMap_cons, List.flatMap_nil, mkT, e1, e2]
        refine ⟨by omega, by omega, by rw [List.length_take]; omega, ?_⟩
        simp only [↓wt, wu, wk0, wk1, wk2, wk3, Nat.reduceAdd, Nat.reduceEqDiff, Nat.reduceLeDiff, Nat.reduceLT, Nat.reduceMul, Int.reduceLE, Int.reduceLT, Int.reduceEq, Int.reduceNe, List.flatMap_cons, List.flatMap_nil, Try.results3]
        exact exp_c
set_option maxHeartbeats 4000000 in
theorem tapeturns_call (p q : List UInt8) (n : Int) (h1 : -9223372036854775808 ≤ n) (h2 : n < 9223372036854775808) : PCall Try.prog 4 [Bs p, Bs q, .c (.int .i64 n)] (.c (.bool true)) := by
  refine pcall_body tabOk Try.func4 rfl rfl (by rw [Try.ntmps4]; simp) ?_
  simp only [Try.ntmps4, Bs]
  simp only [↓wt, wu, wk0, wk1, wk2, wk3, Nat.reduceAdd, Nat.reduceEqDiff, Nat.reduceLeDiff, Nat.reduceLT, Nat.reduceMul, Int.reduceLE, Int.reduceLT, Int.reduceEq, Int.reduceNe, List.flatMap_cons, List.flatMap_nil]
  refine icall_drop [] awake_call trivial (.c _) ?_
  simp only [↓wt, wu, wk0, wk1, wk2, wk3, Nat.reduceAdd, Nat.reduceEqDiff, Nat.reduceLeDiff, Nat.reduceLT, Nat.reduceMul, Int.reduceLE, Int.reduceLT, Int.reduceEq, Int.reduceNe, List.flatMap_cons, List.flatMap_nil]
  cases f1 : decide ((p.length : Int) > 20000) with
  | true => simp only [↓wt, wu, wk0, wk1, wk2, wk3, Nat.reduceAdd, Nat.reduceEqDiff, Nat.reduceLeDiff, Nat.reduceLT, Nat.reduceMul, Int.reduceLE, Int.reduceLT, Int.reduceEq, Int.reduceNe, List.flatMap_cons, List.flatMap_nil, Try.results4]; exact exp_c
  | false =>
    simp only [↓wt, wu, wk0, wk1, wk2, wk3, Nat.reduceAdd, Nat.reduceEqDiff, Nat.reduceLeDiff, Nat.reduceLT, Nat.reduceMul, Int.reduceLE, Int.reduceLT, Int.reduceEq, Int.reduceNe, List.flatMap_cons, List.flatMap_nil]
    cases f2 : decide ((q.length : Int) > 20000) with
    | true => simp only [↓wt, wu, wk0, wk1, wk2, wk3, Nat.reduceAdd, Nat.reduceEqDiff, Nat.reduceLeDiff, Nat.reduceLT, Nat.reduceMul, Int.reduceLE, Int.reduceLT, Int.reduceEq, Int.reduceNe, List.flatMap_cons, List.flatMap_nil, Try.results4]; exact exp_c
    | false =>
      have g1 := of_decide_eq_false f1
      have g2 := of_decide_eq_false f2
      have w1 := write_call (mkT false [] []) false p (mk_fit (by simp) (by simp)) (by omega)
      rw [(mk_wr (by simp; omega)).1, (mk_wr (by simp; omega)).2, List.nil_append, tv_nil] at w1
      have s1 := sync_call (mkT false [] p) false (mk_fit (by simp) (by omega))
      rw [mk_sy, List.nil_append] at s1
      have w2 := write_call ⟨p, [], [], []⟩ true q (by simp [Tape4.Fit, Fit8]; omega) (by omega)
      have w3 : wrT ⟨p, [], [], []⟩ true q = ⟨p, [], [], q⟩ := by simp [wrT, Tape4.n, total]; omega
      have w4 : wrC ⟨p, [], [], []⟩ q = 0 := by simp [wrC, Tape4.n, total]; omega
      rw [w3, w4] at w2
      have s2 := sync_call ⟨p, [], [], q⟩ true (by simp [Tape4.Fit, Fit8]; omega)
      have s3 : syT ⟨p, [], [], q⟩ true = ⟨p, [], q, []⟩ := by simp [syT]
      rw [s3] at s2
      have t1 := turn_call ⟨p, [], q, []⟩
      have l1 := lose_call (tuT ⟨p, [], q, []⟩) n h1 h2 (by simp [Tape4.Fit, Fit8, tuT]; omega)
      have l2 : loT (tuT ⟨p, [], q, []⟩) n = ⟨q, [], [], []⟩ := by simp [loT, tuT]
      rw [l2] at l1
      have t2 := wipe_call ⟨p, [], q, []⟩
      have l3 := lose_call (wiT ⟨p, [], q, []⟩) n h1 h2 (by simp [Tape4.Fit, Fit8, wiT]; omega)
      have l4 : loT (wiT ⟨p, [], q, []⟩) n = ⟨p, [], [], []⟩ := by simp [loT, wiT]
      rw [l4] at l3
      have m1 := same_call ⟨q, [], [], []⟩
      have m2 := same_call ⟨p, [], [], []⟩
      simp only [↓wt, wu, wk0, wk1, wk2, wk3, Nat.reduceAdd, Nat.reduceEqDiff, Nat.reduceLeDiff, Nat.reduceLT, Nat.reduceMul, Int.reduceLE, Int.reduceLT, Int.reduceEq, Int.reduceNe, List.flatMap_cons, List.flatMap_nil]
      refine icall_drop [] w1 ⟨arg_nil4, arg_c, arg_l (pureB _), trivial⟩ okR_wr ?_
      simp only [↓wt, wu, wk0, wk1, wk2, wk3, Nat.reduceAdd, Nat.reduceEqDiff, Nat.reduceLeDiff, Nat.reduceLT, Nat.reduceMul, Int.reduceLE, Int.reduceLT, Int.reduceEq, Int.reduceNe, List.flatMap_cons, List.flatMap_nil, tv, TapeA, Bs, mkT]
      refine icall_drop [] s1 ⟨arg_tape (a := []) (b := p) (c := []) (d := []), arg_c, trivial⟩ okR_tape ?_
      simp only [↓wt, wu, wk0, wk1, wk2, wk3, Nat.reduceAdd, Nat.reduceEqDiff, Nat.reduceLeDiff, Nat.reduceLT, Nat.reduceMul, Int.reduceLE, Int.reduceLT, Int.reduceEq, Int.reduceNe, List.flatMap_cons, List.flatMap_nil, tv, TapeA, Bs, mkT]
      refine icall_drop [] w2 ⟨arg_tape (a := p) (b := []) (c := []) (d := []), arg_c, arg_l (pureB _), trivial⟩ okR_wr ?_
      simp only [↓wt, wu, wk0, wk1, wk2, wk3, Nat.reduceAdd, Nat.reduceEqDiff, Nat.reduceLeDiff, Nat.reduceLT, Nat.reduceMul, Int.reduceLE, Int.reduceLT, Int.reduceEq, Int.reduceNe, List.flatMap_cons, List.flatMap_nil, tv, TapeA, Bs]
      refine icall_drop [] s2 ⟨arg_tape (a := p) (b := []) (c := []) (d := q), arg_c, trivial⟩ okR_tape ?_
      simp only [↓wt, wu, wk0, wk1, wk2, wk3, Nat.reduceAdd, Nat.reduceEqDiff, Nat.reduceLeDiff, Nat.reduceLT, Nat.reduceMul, Int.reduceLE, Int.reduceLT, Int.reduceEq, Int.reduceNe, List.flatMap_cons, List.flatMap_nil, tv, TapeA, Bs]
      refine freeze_rule 0 [0, 1, 2, 6, 7] ?_ ?_ ?_
      · simp only [↓wt, wu, wk0, wk1, wk2, wk3, Nat.reduceAdd, Nat.reduceEqDiff, Nat.reduceLeDiff, Nat.reduceLT, Nat.reduceMul, Int.reduceLE, Int.reduceLT, Int.reduceEq, Int.reduceNe, List.flatMap_cons, List.flatMap_nil]
      · simp only [↓wt, wu, wk0, wk1, wk2, wk3, Nat.reduceAdd, Nat.reduceEqDiff, Nat.reduceLeDiff, Nat.reduceLT, Nat.reduceMul, Int.reduceLE, Int.reduceLT, Int.reduceEq, Int.reduceNe, List.flatMap_cons, List.flatMap_nil]
        exact fun _ => pure_tv (t := ⟨p, [], q, []⟩) rfl rfl rfl rfl
      simp only [↓wt, wu, wk0, wk1, wk2, wk3, Nat.reduceAdd, Nat.reduceEqDiff, Nat.reduceLeDiff, Nat.reduceLT, Nat.reduceMul, Int.reduceLE, Int.reduceLT, Int.reduceEq, Int.reduceNe, List.flatMap_cons, List.flatMap_nil]
      refine draw_rule4 tabOk mixed [(27, 0), (27, 0)] [0, 3, 0, 3, 0, 3, 0, 3, 4, 4, 1, 1] [0, 0, 0, 0, 0, 0, 0, 0, 1, 2, 0, 0] [[], [0], [], [0, 1, 2], [], [0, 1, 2, 3, 4], [], [0, 1, 2, 3, 4, 5, 6], [], [], [0, 1, 2, 3, 4, 5, 6, 7, 8, 9], [0, 1, 2, 3, 4, 5, 6, 7, 8, 9, 10]] (by kernel_rfl) (by kernel_rfl) ?_
      simp only [↓wt, wu, wk0, wk1, wk2, wk3, Nat.reduceAdd, Nat.reduceEqDiff, Nat.reduceLeDiff, Nat.reduceLT, Nat.reduceMul, Int.reduceLE, Int.reduceLT, Int.reduceEq, Int.reduceNe, List.flatMap_cons, List.flatMap_nil, d4_nil, d4_op, d4_opg, d4_p0, d4_p, d4_0, d4_1, d4_2, d4_3, d4_p0', d4_p3, d4_alloc, d4_lit, resv, pdB, ovP]
      refine d_pureC (r := tv (tuT ⟨p, [], q, []⟩)) (fun M0 => icall_drop [] t1 ⟨arg_tvE rfl rfl rfl rfl, trivial⟩ okR_tape ⟨rfl, rfl⟩) ?_
      simp only [↓wt, wu, wk0, wk1, wk2, wk3, Nat.reduceAdd, Nat.reduceEqDiff, Nat.reduceLeDiff, Nat.reduceLT, Nat.reduceMul, Int.reduceLE, Int.reduceLT, Int.reduceEq, Int.reduceNe, List.flatMap_cons, List.flatMap_nil, tv, TapeA, Bs, tuT, d4_nil, d4_op, d4_opg, d4_p0, d4_p, d4_0, d4_1, d4_2, d4_3, d4_p0', d4_p3, d4_alloc, d4_lit, resv, pdB, ovP]
      refine d_pureC (r := tv (⟨q, [], [], []⟩)) (fun M0 => icall_drop [] l1 ⟨arg_tvE rfl rfl rfl rfl, arg_c, trivial⟩ okR_tape ⟨rfl, rfl⟩) ?_
      simp only [↓wt, wu, wk0, wk1, wk2, wk3, Nat.reduceAdd, Nat.reduceEqDiff, Nat.reduceLeDiff, Nat.reduceLT, Nat.reduceMul, Int.reduceLE, Int.reduceLT, Int.reduceEq, Int.reduceNe, List.flatMap_cons, List.flatMap_nil, tv, TapeA, Bs, d4_nil, d4_op, d4_opg, d4_p0, d4_p, d4_0, d4_1, d4_2, d4_3, d4_p0', d4_p3, d4_alloc, d4_lit, resv, pdB, ovP]
      refine d_pureC (r := tv (wiT ⟨p, [], q, []⟩)) (fun M0 => icall_drop [] t2 ⟨arg_tvE rfl rfl rfl rfl, trivial⟩ okR_tape ⟨rfl, rfl⟩) ?_
      simp only [↓wt, wu, wk0, wk1, wk2, wk3, Nat.reduceAdd, Nat.reduceEqDiff, Nat.reduceLeDiff, Nat.reduceLT, Nat.reduceMul, Int.reduceLE, Int.reduceLT, Int.reduceEq, Int.reduceNe, List.flatMap_cons, List.flatMap_nil, tv, TapeA, Bs, wiT, d4_nil, d4_op, d4_opg, d4_p0, d4_p, d4_0, d4_1, d4_2, d4_3, d4_p0', d4_p3, d4_alloc, d4_lit, resv, pdB, ovP]
      refine d_pureC (r := tv (⟨p, [], [], []⟩)) (fun M0 => icall_drop [] l3 ⟨arg_tvE rfl rfl rfl rfl, arg_c, trivial⟩ okR_tape ⟨rfl, rfl⟩) ?_
      simp only [↓wt, wu, wk0, wk1, wk2, wk3, Nat.reduceAdd, Nat.reduceEqDiff, Nat.reduceLeDiff, Nat.reduceLT, Nat.reduceMul, Int.reduceLE, Int.reduceLT, Int.reduceEq, Int.reduceNe, List.flatMap_cons, List.flatMap_nil, tv, TapeA, Bs, d4_nil, d4_op, d4_opg, d4_p0, d4_p, d4_0, d4_1, d4_2, d4_3, d4_p0', d4_p3, d4_alloc, d4_lit, resv, pdB, ovP]
      refine d_heavyX (by simp only [↓wt, wu, wk0, wk1, wk2, wk3, Nat.reduceAdd, Nat.reduceEqDiff, Nat.reduceLeDiff, Nat.reduceLT, Nat.reduceMul, Int.reduceLE, Int.reduceLT, Int.reduceEq, Int.reduceNe, List.flatMap_cons, List.flatMap_nil]; (repeat (first | refine And.intro (by omega) ?_ | refine And.intro (pureB _) ?_ | refine And.intro ⟨pureB _, pureB _⟩ ?_)); exact ⟨rfl, rfl⟩) ?_
      simp only [↓wt, wu, wk0, wk1, wk2, wk3, Nat.reduceAdd, Nat.reduceEqDiff, Nat.reduceLeDiff, Nat.reduceLT, Nat.reduceMul, Int.reduceLE, Int.reduceLT, Int.reduceEq, Int.reduceNe, List.flatMap_cons, List.flatMap_nil, d4_nil, d4_op, d4_opg, d4_p0, d4_p, d4_0, d4_1, d4_2, d4_3, d4_p0', d4_p3, d4_alloc, d4_lit, resv, pdB, ovP]
      refine d_heavyX (by simp only [↓wt, wu, wk0, wk1, wk2, wk3, Nat.reduceAdd, Nat.reduceEqDiff, Nat.reduceLeDiff, Nat.reduceLT, Nat.reduceMul, Int.reduceLE, Int.reduceLT, Int.reduceEq, Int.reduceNe, List.flatMap_cons, List.flatMap_nil]; (repeat (first | refine And.intro (by omega) ?_ | refine And.intro (pureB _) ?_ | refine And.intro ⟨pureB _, pureB _⟩ ?_)); exact ⟨rfl, rfl⟩) ?_
      simp only [↓wt, wu, wk0, wk1, wk2, wk3, Nat.reduceAdd, Nat.reduceEqDiff, Nat.reduceLeDiff, Nat.reduceLT, Nat.reduceMul, Int.reduceLE, Int.reduceLT, Int.reduceEq, Int.reduceNe, List.flatMap_cons, List.flatMap_nil, d4_nil, d4_op, d4_opg, d4_p0, d4_p, d4_0, d4_1, d4_2, d4_3, d4_p0', d4_p3, d4_alloc, d4_lit, resv, pdB, ovP]
      refine icall_drop [] m1 ⟨arg_tvE rfl rfl rfl rfl, arg_gw4 ⟨argC_B, argC_nil, argC_nil, argC_nil, trivial⟩, trivial⟩ (.c _) ?_
      simp only [↓wt, wu, wk0, wk1, wk2, wk3, Nat.reduceAdd, Nat.reduceEqDiff, Nat.reduceLeDiff, Nat.reduceLT, Nat.reduceMul, Int.reduceLE, Int.reduceLT, Int.reduceEq, Int.reduceNe, List.flatMap_cons, List.flatMap_nil]
      refine icall_drop [] m2 ⟨arg_tvE rfl rfl rfl rfl, arg_gw4 ⟨argC_B, argC_nil, argC_nil, argC_nil, trivial⟩, trivial⟩ (.c _) ?_
      simp only [↓wt, wu, wk0, wk1, wk2, wk3, Nat.reduceAdd, Nat.reduceEqDiff, Nat.reduceLeDiff, Nat.reduceLT, Nat.reduceMul, Int.reduceLE, Int.reduceLT, Int.reduceEq, Int.reduceNe, List.flatMap_cons, List.flatMap_nil, Try.results4]
      exact exp_c
end Go.Ab
