/- Tapes: may it be one; bytes; areas. -/
import Derived.Test.YtdnhojfkjgggbaaDoorFr13
set_option linter.unusedSimpArgs false
set_option linter.unusedVariables false
set_option linter.constructorNameAsVariable false
set_option maxRecDepth 100000
namespace Go.Ab
open Go Go.Proofs Go.RowKit

theorem concat_call (ls : List (List UInt8)) (hl : ls.length < 1000000000) (hf : ls.flatten.length ≤ 1000000000) : PCall Tryd.prog 32 [.l 1 (ls.map Bs)] (Bs ls.flatten) :=
  (concatO_call ls hl hf).frz
def AreaA (s l : List UInt8) : AV := .g [Bs s, Bs l]
def TapeA (a b c d : List UInt8) : AV := .g [Bs a, Bs b, Bs c, Bs d]
theorem arg_area {M : Mem} {ids : List Nat} {s l : List UInt8} : VOkA M (AreaA s l) ∧ (∀ k ∈ idsA (AreaA s l), k ∈ ids) ∧ Weak (viewA M (AreaA s l)) (AreaA s l) ∧ Under 0 (AreaA s l) :=
  ⟨⟨trivial, trivial, trivial⟩, (fun i h => by simp [AreaA, Bs, idsA, idsC] at h), weak_g, by simp only [AreaA, under_g, List.mem_cons, List.not_mem_nil, or_false, forall_eq_or_imp, forall_eq, under_Bs, and_self]⟩
theorem arg_tape {M : Mem} {ids : List Nat} {a b c d : List UInt8} : VOkA M (TapeA a b c d) ∧ (∀ k ∈ idsA (TapeA a b c d), k ∈ ids) ∧ Weak (viewA M (TapeA a b c d)) (TapeA a b c d) ∧ Under 0 (TapeA a b c d) :=
  ⟨⟨trivial, trivial, trivial, trivial, trivial⟩, (fun i h => by simp [TapeA, Bs, idsA, idsC] at h), weak_g, by simp only [TapeA, under_g, List.mem_cons, List.not_mem_nil, or_false, forall_eq_or_imp, forall_eq, under_Bs, and_self]⟩
theorem pure_Bs4 {a b c d : List UInt8} : PureL [Bs a, Bs b, Bs c, Bs d] := underL_Bs (ls := [a, b, c, d]) |>.mpr trivial
theorem pure_Bs2 {a b : List UInt8} : PureL [Bs a, Bs b] := underL_Bs (ls := [a, b]) |>.mpr trivial
/-- Texts that are not too long. -/
def Fit8 (l : List UInt8) : Prop := l.length ≤ 100000000
/-- A tape's bytes. -/
def total (a b c d : List UInt8) : Nat := a.length + b.length + c.length + d.length
def tm_sum (a b c d : List UInt8) : Nat → Nat
  | 0 => 0
  | 1 => a.length
  | 2 => a.length + b.length
  | 3 => a.length + b.length + c.length
  | _ => a.length + b.length + c.length + d.length
def tm_I (a b c d : List UInt8) (k : Nat) : ASt :=
  ⟨[(3, .c (.int .i64 (tm_sum a b c d k))), (18, .s 1 0 4), (19, .c (.int .i64 4)), (20, .c (.int .i64 k))], ⟨[(1, ⟨22, 1, [Bs a, Bs b, Bs c, Bs d]⟩)], 2⟩, 31⟩
set_option maxHeartbeats 2000000 in
theorem tmay_call (a b c d : List UInt8) (ha : Fit8 a) (hb : Fit8 b) (hc : Fit8 c) (hd : Fit8 d) : PCall Tryd.prog 64 [TapeA a b c d] (.c (.bool (decide (total a b c d ≤ 65536)))) := by
  unfold Fit8 at ha hb hc hd
  refine pcall_body tabOk Tryd.func64 rfl rfl (by rw [Tryd.ntmps64]; simp) ?_
  simp only [Tryd.ntmps64, TapeA, Bs]
  simp only [↓wt, wu, wk0, wk1, wk2, wk3, Nat.reduceAdd, Nat.reduceEqDiff, Nat.reduceLeDiff, Nat.reduceLT, Nat.reduceMul, Int.reduceLE, Int.reduceLT, Int.reduceEq, Int.reduceNe, wk4, laidS, keepS]
  refine loop_rule tabOk (tm_I a b c d) (fun k => k ≤ 4) (fun k => 4 - k) 0 (by omega) ?_ (fun _ => rfl) ?_
  · simp only [↓wt, wu, wk0, wk1, wk2, wk3, wkf, Nat.reduceAdd, Nat.reduceEqDiff, Nat.reduceLeDiff, Nat.reduceLT, Nat.reduceMul, Int.reduceLE, Int.reduceLT, Int.reduceEq, Int.reduceNe, wk4, laidS, keepS, tm_I, Bs, tm_sum]
  · intro k hk
    match k, hk with
    | 0, _ =>
      simp only [tm_I, tm_sum, Bs]
      have e1 : IntKind.i64.wrap (0 + (a.length : Int)) = (a.length : Int) := by rw [wrap_i64 (by omega) (by omega)]; omega
      have e2 : IntKind.i64.wrap ((0 : Int) + 1) = 1 := by rw [wrap_i64 (by omega) (by omega)]; rfl
      simp only [↓wt, wu, wk0, wk1, wk2, wk3, Nat.reduceAdd, Nat.reduceEqDiff, Nat.reduceLeDiff, Nat.reduceLT, Nat.reduceMul, Int.reduceLE, Int.reduceLT, Int.reduceEq, Int.reduceNe, wk4, laidS, keepS, e1, e2]
      refine ⟨1, by omega, by omega, ?_⟩
      simp only [↓wt, wu, wk0, wk1, wk2, wk3, wkf, Nat.reduceAdd, Nat.reduceEqDiff, Nat.reduceLeDiff, Nat.reduceLT, Nat.reduceMul, Int.reduceLE, Int.reduceLT, Int.reduceEq, Int.reduceNe, wk4, laidS, keepS, tm_I, Bs, tm_sum, e1, e2]
    | 1, _ =>
      simp only [tm_I, tm_sum, Bs]
      have e1 : IntKind.i64.wrap ((a.length : Int) + (b.length : Int)) = ((a.length + b.length : Nat) : Int) := by rw [wrap_i64 (by omega) (by omega)]; omega
      have e2 : IntKind.i64.wrap ((1 : Int) + 1) = 2 := by rw [wrap_i64 (by omega) (by omega)]; rfl
      have t1 : Int.toNat 1 = 1 := rfl
      simp only [↓wt, wu, wk0, wk1, wk2, wk3, Nat.reduceAdd, Nat.reduceEqDiff, Nat.reduceLeDiff, Nat.reduceLT, Nat.reduceMul, Int.reduceLE, Int.reduceLT, Int.reduceEq, Int.reduceNe, wk4, laidS, keepS, e1, e2, t1]
      refine ⟨2, by omega, by omega, ?_⟩
      simp only [↓wt, wu, wk0, wk1, wk2, wk3, wkf, Nat.reduceAdd, Nat.reduceEqDiff, Nat.reduceLeDiff, Nat.reduceLT, Nat.reduceMul, Int.reduceLE, Int.reduceLT, Int.reduceEq, Int.reduceNe, wk4, laidS, keepS, tm_I, Bs, tm_sum, e1, e2]
    | 2, _ =>
      simp only [tm_I, tm_sum, Bs]
      have e1 : IntKind.i64.wrap (((a.length + b.length : Nat) : Int) + (c.length : Int)) = ((a.length + b.length + c.length : Nat) : Int) := by rw [wrap_i64 (by omega) (by omega)]; omega
      have e2 : IntKind.i64.wrap ((2 : Int) + 1) = 3 := by rw [wrap_i64 (by omega) (by omega)]; rfl
      have t1 : Int.toNat 2 = 2 := rfl
      simp only [↓wt, wu, wk0, wk1, wk2, wk3, Nat.reduceAdd, Nat.reduceEqDiff, Nat.reduceLeDiff, Nat.reduceLT, Nat.reduceMul, Int.reduceLE, Int.reduceLT, Int.reduceEq, Int.reduceNe, wk4, laidS, keepS, e1, e2, t1]
      refine ⟨3, by omega, by omega, ?_⟩
      simp only [↓wt, wu, wk0, wk1, wk2, wk3, wkf, Nat.reduceAdd, Nat.reduceEqDiff, Nat.reduceLeDiff, Nat.reduceLT, Nat.reduceMul, Int.reduceLE, Int.reduceLT, Int.reduceEq, Int.reduceNe, wk4, laidS, keepS, tm_I, Bs, tm_sum, e1, e2]
    | 3, _ =>
      simp only [tm_I, tm_sum, Bs]
      have e1 : IntKind.i64.wrap (((a.length + b.length + c.length : Nat) : Int) + (d.length : Int)) = ((a.length + b.length + c.length + d.length : Nat) : Int) := by rw [wrap_i64 (by omega) (by omega)]; omega
      have e2 : IntKind.i64.wrap ((3 : Int) + 1) = 4 := by rw [wrap_i64 (by omega) (by omega)]; rfl
      have t1 : Int.toNat 3 = 3 := rfl
      simp only [↓wt, wu, wk0, wk1, wk2, wk3, Nat.reduceAdd, Nat.reduceEqDiff, Nat.reduceLeDiff, Nat.reduceLT, Nat.reduceMul, Int.reduceLE, Int.reduceLT, Int.reduceEq, Int.reduceNe, wk4, laidS, keepS, e1, e2, t1]
      refine ⟨4, by omega, by omega, ?_⟩
      simp only [↓wt, wu, wk0, wk1, wk2, wk3, wkf, Nat.reduceAdd, Nat.reduceEqDiff, Nat.reduceLeDiff, Nat.reduceLT, Nat.reduceMul, Int.reduceLE, Int.reduceLT, Int.reduceEq, Int.reduceNe, wk4, laidS, keepS, tm_I, Bs, tm_sum, e1, e2]
    | 4, _ =>
      simp only [tm_I, tm_sum, Bs]
      simp only [↓wt, wu, wk0, wk1, wk2, wk3, Nat.reduceAdd, Nat.reduceEqDiff, Nat.reduceLeDiff, Nat.reduceLT, Nat.reduceMul, Int.reduceLE, Int.reduceLT, Int.reduceEq, Int.reduceNe, wk4, laidS, keepS, Tryd.results64]
      refine exp_b (p := total a b c d ≤ 65536) ?_
      rw [decide_eq_decide]; unfold total; omega
    | k + 5, h => omega
theorem area_icall {M : Mem} {K : AV → Mem → Prop} {id i j n : Nat} {b : Bool} (h : K (.p id i (j + if b = true then 2 else 0) n) M) : ICall Tryd.prog 53 [.p id i j n, .c (.bool b)] M K := by
  refine icall_body tabOk Tryd.func53 rfl rfl (by rw [Tryd.ntmps53]; simp) (aw_sound tabOk _ _ _ ?_)
  simp only [Tryd.ntmps53]
  cases b with
  | true =>
    simp only [↓wt, wu, wk0, wk1, wk2, wk3, Nat.reduceAdd, Nat.reduceEqDiff, Nat.reduceLeDiff, Nat.reduceLT, Nat.reduceMul, Int.reduceLE, Int.reduceLT, Int.reduceEq, Int.reduceNe, wk4, laidS, keepS, Tryd.results53]
    simpa using h
  | false =>
    simp only [↓wt, wu, wk0, wk1, wk2, wk3, Nat.reduceAdd, Nat.reduceEqDiff, Nat.reduceLeDiff, Nat.reduceLT, Nat.reduceMul, Int.reduceLE, Int.reduceLT, Int.reduceEq, Int.reduceNe, wk4, laidS, keepS, Tryd.results53]
    simpa using h
theorem bytes_call (s l : List UInt8) (hs : Fit8 s) (hl : Fit8 l) : PCall Tryd.prog 35 [AreaA s l] (Bs (s ++ l)) := by
  unfold Fit8 at hs hl
  refine pcall_body tabOk Tryd.func35 rfl rfl (by rw [Tryd.ntmps35]; simp) ?_
  simp only [Tryd.ntmps35, AreaA, Bs]
  simp only [↓wt, wu, wk0, wk1, wk2, wk3, Nat.reduceAdd, Nat.reduceEqDiff, Nat.reduceLeDiff, Nat.reduceLT, Nat.reduceMul, Int.reduceLE, Int.reduceLT, Int.reduceEq, Int.reduceNe, wk4, laidS, keepS]
  have := concat_call [s, l] (by simp) (by simp; omega)
  refine icall_drop [1] this ⟨arg_own (by simp) rfl rfl pure_Bs2, trivial⟩ okR_Bs ?_
  simp only [↓wt, wu, wk0, wk1, wk2, wk3, Nat.reduceAdd, Nat.reduceEqDiff, Nat.reduceLeDiff, Nat.reduceLT, Nat.reduceMul, Int.reduceLE, Int.reduceLT, Int.reduceEq, Int.reduceNe, wk4, laidS, keepS, Tryd.results35, Bs, List.flatten_cons, List.flatten_nil]
  exact exp_self okR_Bs
theorem rbytes_call (s l : List UInt8) (hs : Fit8 s) (hl : Fit8 l) : PCall Tryd.prog 39 [AreaA s l] (Bs (s ++ l)) := by
  unfold Fit8 at hs hl
  refine pcall_body tabOk Tryd.func39 rfl rfl (by rw [Tryd.ntmps39]; simp) ?_
  simp only [Tryd.ntmps39, AreaA, Bs]
  simp only [↓wt, wu, wk0, wk1, wk2, wk3, Nat.reduceAdd, Nat.reduceEqDiff, Nat.reduceLeDiff, Nat.reduceLT, Nat.reduceMul, Int.reduceLE, Int.reduceLT, Int.reduceEq, Int.reduceNe, wk4, laidS, keepS]
  refine freeze_rule 0 [1, 2] ?_ ?_ ?_
  · simp only [↓wt, wu, wk0, wk1, wk2, wk3, Nat.reduceAdd, Nat.reduceEqDiff, Nat.reduceLeDiff, Nat.reduceLT, Nat.reduceMul, Int.reduceLE, Int.reduceLT, Int.reduceEq, Int.reduceNe, wk4, laidS, keepS]
  · simp only [↓wt, wu, wk0, wk1, wk2, wk3, Nat.reduceAdd, Nat.reduceEqDiff, Nat.reduceLeDiff, Nat.reduceLT, Nat.reduceMul, Int.reduceLE, Int.reduceLT, Int.reduceEq, Int.reduceNe, wk4, laidS, keepS]
    exact fun _ => by simp only [pureL_eq, underL_cons, underL_nil, AV.cells, under_l, underL_B, List.mem_cons, List.not_mem_nil, or_false, forall_eq_or_imp, forall_eq, and_self]
  simp only [↓wt, wu, wk0, wk1, wk2, wk3, Nat.reduceAdd, Nat.reduceEqDiff, Nat.reduceLeDiff, Nat.reduceLT, Nat.reduceMul, Int.reduceLE, Int.reduceLT, Int.reduceEq, Int.reduceNe, wk4, laidS, keepS]
  refine draw_rule tabOk mixed [1, 0, 0, 1, 0, 0, 1, 0] [[], [], [1], [0, 1, 2], [], [4], [0, 1, 2, 3, 4, 5], [0, 1, 2, 3, 4, 5, 6]] (by kernel_rfl) ?_
  simp only [↓wt, wu, wk0, wk1, wk2, wk3, Nat.reduceAdd, Nat.reduceEqDiff, Nat.reduceLeDiff, Nat.reduceLT, Nat.reduceMul, Int.reduceLE, Int.reduceLT, Int.reduceEq, Int.reduceNe, wk4, laidS, keepS]
  refine d_heavyX (by simp only [↓wt, wu, wk0, wk1, wk2, wk3, Nat.reduceAdd, Nat.reduceEqDiff, Nat.reduceLeDiff, Nat.reduceLT, Nat.reduceMul, Int.reduceLE, Int.reduceLT, Int.reduceEq, Int.reduceNe, wk4, laidS, keepS]; (repeat (first | refine And.intro (by omega) ?_ | refine And.intro (pureB _) ?_ | refine And.intro (pureI _) ?_ | refine And.intro ⟨pureB _, pureB _⟩ ?_ | refine And.intro ⟨pureB _, pureI _⟩ ?_ | refine And.intro ⟨pureI _, pureB _⟩ ?_ | refine And.intro ⟨pureI _, pureI _⟩ ?_)); exact ⟨rfl, rfl⟩) ?_
  simp only [↓wt, wu, wk0, wk1, wk2, wk3, Nat.reduceAdd, Nat.reduceEqDiff, Nat.reduceLeDiff, Nat.reduceLT, Nat.reduceMul, Int.reduceLE, Int.reduceLT, Int.reduceEq, Int.reduceNe, wk4, laidS, keepS]
  refine d_heavyX (by simp only [↓wt, wu, wk0, wk1, wk2, wk3, Nat.reduceAdd, Nat.reduceEqDiff, Nat.reduceLeDiff, Nat.reduceLT, Nat.reduceMul, Int.reduceLE, Int.reduceLT, Int.reduceEq, Int.reduceNe, wk4, laidS, keepS]; (repeat (first | refine And.intro (by omega) ?_ | refine And.intro (pureB _) ?_ | refine And.intro (pureI _) ?_ | refine And.intro ⟨pureB _, pureB _⟩ ?_ | refine And.intro ⟨pureB _, pureI _⟩ ?_ | refine And.intro ⟨pureI _, pureB _⟩ ?_ | refine And.intro ⟨pureI _, pureI _⟩ ?_)); exact ⟨rfl, rfl⟩) ?_
  simp only [↓wt, wu, wk0, wk1, wk2, wk3, Nat.reduceAdd, Nat.reduceEqDiff, Nat.reduceLeDiff, Nat.reduceLT, Nat.reduceMul, Int.reduceLE, Int.reduceLT, Int.reduceEq, Int.reduceNe, wk4, laidS, keepS]
  refine d_heavyX (by simp only [↓wt, wu, wk0, wk1, wk2, wk3, Nat.reduceAdd, Nat.reduceEqDiff, Nat.reduceLeDiff, Nat.reduceLT, Nat.reduceMul, Int.reduceLE, Int.reduceLT, Int.reduceEq, Int.reduceNe, wk4, laidS, keepS]; (repeat (first | refine And.intro (by omega) ?_ | refine And.intro (pureB _) ?_ | refine And.intro (pureI _) ?_ | refine And.intro ⟨pureB _, pureB _⟩ ?_ | refine And.intro ⟨pureB _, pureI _⟩ ?_ | refine And.intro ⟨pureI _, pureB _⟩ ?_ | refine And.intro ⟨pureI _, pureI _⟩ ?_)); exact ⟨rfl, rfl⟩) ?_
  simp only [↓wt, wu, wk0, wk1, wk2, wk3, Nat.reduceAdd, Nat.reduceEqDiff, Nat.reduceLeDiff, Nat.reduceLT, Nat.reduceMul, Int.reduceLE, Int.reduceLT, Int.reduceEq, Int.reduceNe, wk4, laidS, keepS, Tryd.results39, List.nil_append]
  exact exp_slB rfl List.map_append.symm (by rw [List.length_append])
end Go.Ab
