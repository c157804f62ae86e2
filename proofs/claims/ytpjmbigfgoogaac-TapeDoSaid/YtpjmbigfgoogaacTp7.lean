/- Tapes: synced, turned, wiped, cut, lost; the same. -/
import Derived.Test.YtpjmbigfgoogaacTp6
set_option linter.unusedSimpArgs false
set_option linter.unusedVariables false
set_option linter.constructorNameAsVariable false
set_option maxRecDepth 100000
namespace Go.Ab
open Go Go.Proofs Go.RowKit

/-- A struct's cells as arguments: some of the call's own. -/
def ArgC (M : Mem) (ids : List Nat) (a b : AV) : Prop := VOkC M a ∧ (∀ i ∈ idsC a, i ∈ ids) ∧ Weak1 (viewC M a) b ∧ Under 0 b
def ArgCL (M : Mem) (ids : List Nat) : List AV → List AV → Prop
  | [], [] => True
  | a :: r, b :: s => ArgC M ids a b ∧ ArgCL M ids r s
  | _, _ => False
theorem ArgCL.all {M : Mem} {ids : List Nat} : ∀ {l m : List AV}, ArgCL M ids l m → AllV M l ∧ (∀ i ∈ l.flatMap idsC, i ∈ ids) ∧ WeakL (l.map (viewC M)) m ∧ ∀ i (h : i < m.length), Under 0 m[i]
  | [], [], _ => ⟨trivial, fun i h => by simp at h, trivial, fun i h => absurd h (by simp)⟩
  | a :: r, b :: s, h => by
    obtain ⟨g1, g2, g3, g4⟩ := h.2.all
    refine ⟨⟨h.1.1, g1⟩, fun i hi => ?_, ⟨h.1.2.2.1, g3⟩, fun i hi => match i, hi with
      | 0, _ => h.1.2.2.2
      | i + 1, hi => g4 i (by simpa using hi)⟩
    rw [List.flatMap_cons, List.mem_append] at hi
    exact hi.elim (h.1.2.1 i) (g2 i)
  | [], _ :: _, h => h.elim
  | _ :: _, [], h => h.elim
theorem arg_gL {M : Mem} {ids : List Nat} {l m : List AV} (h : ArgCL M ids l m) : VOkA M (.g l) ∧ (∀ k ∈ idsA (.g l), k ∈ ids) ∧ Weak (viewA M (.g l)) (.g m) ∧ Under 0 (.g m) :=
  ⟨h.all.1, h.all.2.1, by show WeakL _ _; exact h.all.2.2.1, .g m h.all.2.2.2⟩
theorem argC_c {M : Mem} {ids : List Nat} {v : Value} : ArgC M ids (.c v) (.c v) := ⟨trivial, (fun i h => by simp [idsC] at h), .refl _, .c _⟩
theorem argC_l {M : Mem} {ids : List Nat} {sz : Nat} {xs : List AV} (h : PureL xs) : ArgC M ids (.l sz xs) (.l sz xs) := ⟨trivial, (fun i h => by simp [idsC] at h), .refl _, .l _ _ h⟩
theorem argC_B {M : Mem} {ids : List Nat} {l : List UInt8} : ArgC M ids (.l 1 (l.map encB)) (.l 1 (l.map encB)) := argC_l (pureB _)
theorem argC_nil {M : Mem} {ids : List Nat} {sz : Nat} : ArgC M ids (.c (.slice none 0 0)) (.l sz []) := ⟨trivial, (fun i h => by simp [idsC] at h), trivial, okR_nil⟩
theorem argC_own {M : Mem} {ids : List Nat} {id n sz : Nat} {T : TypeId} {xs : List AV} (hi : id ∈ ids) (h : M.get id = some ⟨T, sz, xs⟩) (hn : n = xs.length) (hp : PureL xs) : ArgC M ids (.s id 0 n) (.l sz xs) :=
  ⟨⟨_, h, by simpa using hn, hp⟩, (fun i h => by simp only [idsC, List.mem_singleton] at h; exact h ▸ hi), by simp only [viewC, h, List.drop_zero]; exact .refl _, .l _ _ hp⟩

theorem hld_le (n : Int) (l : Nat) : hld n l ≤ l := by unfold hld; omega
def syT (t : Tape4) (sp : Bool) : Tape4 := bif sp then ⟨t.a, t.b, t.c ++ t.d, []⟩ else ⟨t.a ++ t.b, [], t.c, t.d⟩
def tuT (t : Tape4) : Tape4 := ⟨t.c, t.d, [], []⟩
def wiT (t : Tape4) : Tape4 := ⟨t.a, t.b, [], []⟩
def cuT (t : Tape4) (n : Int) : Tape4 := ⟨t.a.take n.toNat, t.b.take (n - t.a.length).toNat, t.c, t.d⟩
def loT (t : Tape4) (n : Int) : Tape4 := ⟨t.a ++ t.b.take n.toNat, [], t.c ++ t.d.take n.toNat, []⟩
set_option maxHeartbeats 2000000 in
theorem sync_call (t : Tape4) (sp : Bool) (ht : t.Fit) : PCall Try.prog 8 [tv t, .c (.bool sp)] (tv (syT t sp)) := by
  obtain ⟨a, b, c, d⟩ := t
  obtain ⟨ha, hb, hc, hd⟩ := ht
  simp only at ha hb hc hd
  refine pcall_body tabOk Try.func8 rfl rfl (by rw [Try.ntmps8]; simp) ?_
  simp only [Try.ntmps8, tv, TapeA, Bs]
  simp only [↓wt, wu, wk0, wk1, wk2, wk3, Nat.reduceAdd, Nat.reduceEqDiff, Nat.reduceLeDiff, Nat.reduceLT, Nat.reduceMul, Int.reduceLE, Int.reduceLT, Int.reduceEq, Int.reduceNe, List.flatMap_cons, List.flatMap_nil]
  refine area_icall ?_
  cases sp with
  | true =>
    simp only [↓wt, wu, wk0, wk1, wk2, wk3, Nat.reduceAdd, Nat.reduceEqDiff, Nat.reduceLeDiff, Nat.reduceLT, Nat.reduceMul, Int.reduceLE, Int.reduceLT, Int.reduceEq, Int.reduceNe, List.flatMap_cons, List.flatMap_nil]
    refine icall_drop [] (bytes_call c d hc hd) ⟨arg_area, trivial⟩ okR_Bs ?_
    simp only [↓wt, wu, wk0, wk1, wk2, wk3, Nat.reduceAdd, Nat.reduceEqDiff, Nat.reduceLeDiff, Nat.reduceLT, Nat.reduceMul, Int.reduceLE, Int.reduceLT, Int.reduceEq, Int.reduceNe, List.flatMap_cons, List.flatMap_nil, Bs, Try.results8]
    exact exp_gw ⟨.refl _, okR_Bs, .refl _, okR_Bs, .refl _, okR_Bs, trivial, okR_nil, trivial⟩
  | false =>
    simp only [↓wt, wu, wk0, wk1, wk2, wk3, Nat.reduceAdd, Nat.reduceEqDiff, Nat.reduceLeDiff, Nat.reduceLT, Nat.reduceMul, Int.reduceLE, Int.reduceLT, Int.reduceEq, Int.reduceNe, List.flatMap_cons, List.flatMap_nil]
    refine icall_drop [] (bytes_call a b ha hb) ⟨arg_area, trivial⟩ okR_Bs ?_
    simp only [↓wt, wu, wk0, wk1, wk2, wk3, Nat.reduceAdd, Nat.reduceEqDiff, Nat.reduceLeDiff, Nat.reduceLT, Nat.reduceMul, Int.reduceLE, Int.reduceLT, Int.reduceEq, Int.reduceNe, List.flatMap_cons, List.flatMap_nil, Bs, Try.results8]
    exact exp_gw ⟨.refl _, okR_Bs, trivial, okR_nil, .refl _, okR_Bs, .refl _, okR_Bs, trivial⟩
set_option maxHeartbeats 2000000 in
theorem rsync_call (t : Tape4) (sp : Bool) (ht : t.Fit) : PCall Try.prog 19 [tv t, .c (.bool sp)] (tv (syT t sp)) := by
  obtain ⟨a, b, c, d⟩ := t
  obtain ⟨ha, hb, hc, hd⟩ := ht
  simp only at ha hb hc hd
  refine pcall_body tabOk Try.func19 rfl rfl (by rw [Try.ntmps19]; simp) ?_
  simp only [Try.ntmps19, tv, TapeA, Bs]
  simp only [↓wt, wu, wk0, wk1, wk2, wk3, Nat.reduceAdd, Nat.reduceEqDiff, Nat.reduceLeDiff, Nat.reduceLT, Nat.reduceMul, Int.reduceLE, Int.reduceLT, Int.reduceEq, Int.reduceNe, List.flatMap_cons, List.flatMap_nil]
  cases sp with
  | true =>
    simp only [↓wt, wu, wk0, wk1, wk2, wk3, Nat.reduceAdd, Nat.reduceEqDiff, Nat.reduceLeDiff, Nat.reduceLT, Nat.reduceMul, Int.reduceLE, Int.reduceLT, Int.reduceEq, Int.reduceNe, List.flatMap_cons, List.flatMap_nil]
    refine icall_drop [] (rbytes_call c d hc hd) ⟨arg_area, trivial⟩ okR_Bs ?_
    simp only [↓wt, wu, wk0, wk1, wk2, wk3, Nat.reduceAdd, Nat.reduceEqDiff, Nat.reduceLeDiff, Nat.reduceLT, Nat.reduceMul, Int.reduceLE, Int.reduceLT, Int.reduceEq, Int.reduceNe, List.flatMap_cons, List.flatMap_nil, Bs, Try.results19]
    exact exp_gw ⟨.refl _, okR_Bs, .refl _, okR_Bs, .refl _, okR_Bs, trivial, okR_nil, trivial⟩
  | false =>
    simp only [↓wt, wu, wk0, wk1, wk2, wk3, Nat.reduceAdd, Nat.reduceEqDiff, Nat.reduceLeDiff, Nat.reduceLT, Nat.reduceMul, Int.reduceLE, Int.reduceLT, Int.reduceEq, Int.reduceNe, List.flatMap_cons, List.flatMap_nil]
    refine icall_drop [] (rbytes_call a b ha hb) ⟨arg_area, trivial⟩ okR_Bs ?_
    simp only [↓wt, wu, wk0, wk1, wk2, wk3, Nat.reduceAdd, Nat.reduceEqDiff, Nat.reduceLeDiff, Nat.reduceLT, Nat.reduceMul, Int.reduceLE, Int.reduceLT, Int.reduceEq, Int.reduceNe, List.flatMap_cons, List.flatMap_nil, Bs, Try.results19]
    exact exp_gw ⟨.refl _, okR_Bs, trivial, okR_nil, .refl _, okR_Bs, .refl _, okR_Bs, trivial⟩
set_option maxHeartbeats 2000000 in
theorem turn_call (t : Tape4) : PCall Try.prog 10 [tv t] (tv (tuT t)) := by
  obtain ⟨a, b, c, d⟩ := t
  refine pcall_body tabOk Try.func10 rfl rfl (by rw [Try.ntmps10]; simp) ?_
  simp only [Try.ntmps10, tv, TapeA, Bs]
  simp only [↓wt, wu, wk0, wk1, wk2, wk3, Nat.reduceAdd, Nat.reduceEqDiff, Nat.reduceLeDiff, Nat.reduceLT, Nat.reduceMul, Int.reduceLE, Int.reduceLT, Int.reduceEq, Int.reduceNe, List.flatMap_cons, List.flatMap_nil, Try.results10]
  exact exp_gw ⟨.refl _, okR_Bs, .refl _, okR_Bs, trivial, okR_nil, trivial, okR_nil, trivial⟩
set_option maxHeartbeats 2000000 in
theorem rturn_call (t : Tape4) : PCall Try.prog 20 [tv t] (tv (tuT t)) := by
  obtain ⟨a, b, c, d⟩ := t
  refine pcall_body tabOk Try.func20 rfl rfl (by rw [Try.ntmps20]; simp) ?_
  simp only [Try.ntmps20, tv, TapeA, Bs]
  simp only [↓wt, wu, wk0, wk1, wk2, wk3, Nat.reduceAdd, Nat.reduceEqDiff, Nat.reduceLeDiff, Nat.reduceLT, Nat.reduceMul, Int.reduceLE, Int.reduceLT, Int.reduceEq, Int.reduceNe, List.flatMap_cons, List.flatMap_nil, Try.results20]
  exact exp_gw ⟨.refl _, okR_Bs, .refl _, okR_Bs, trivial, okR_nil, trivial, okR_nil, trivial⟩
set_option maxHeartbeats 2000000 in
theorem wipe_call (t : Tape4) : PCall Try.prog 11 [tv t] (tv (wiT t)) := by
  obtain ⟨a, b, c, d⟩ := t
  refine pcall_body tabOk Try.func11 rfl rfl (by rw [Try.ntmps11]; simp) ?_
  simp only [Try.ntmps11, tv, TapeA, Bs]
  simp only [↓wt, wu, wk0, wk1, wk2, wk3, Nat.reduceAdd, Nat.reduceEqDiff, Nat.reduceLeDiff, Nat.reduceLT, Nat.reduceMul, Int.reduceLE, Int.reduceLT, Int.reduceEq, Int.reduceNe, List.flatMap_cons, List.flatMap_nil, Try.results11]
  exact exp_gw ⟨.refl _, okR_Bs, .refl _, okR_Bs, trivial, okR_nil, trivial, okR_nil, trivial⟩
set_option maxHeartbeats 2000000 in
theorem rwipe_call (t : Tape4) : PCall Try.prog 21 [tv t] (tv (wiT t)) := by
  obtain ⟨a, b, c, d⟩ := t
  refine pcall_body tabOk Try.func21 rfl rfl (by rw [Try.ntmps21]; simp) ?_
  simp only [Try.ntmps21, tv, TapeA, Bs]
  simp only [↓wt, wu, wk0, wk1, wk2, wk3, Nat.reduceAdd, Nat.reduceEqDiff, Nat.reduceLeDiff, Nat.reduceLT, Nat.reduceMul, Int.reduceLE, Int.reduceLT, Int.reduceEq, Int.reduceNe, List.flatMap_cons, List.flatMap_nil, Try.results21]
  exact exp_gw ⟨.refl _, okR_Bs, .refl _, okR_Bs, trivial, okR_nil, trivial, okR_nil, trivial⟩
set_option maxHeartbeats 2000000 in
theorem cut_call (t : Tape4) (n : Int) (h1 : -9223372036854775808 ≤ n) (h2 : n < 9223372036854775808) (ht : t.Fit) : PCall Try.prog 22 [tv t, .c (.int .i64 n)] (tv (cuT t n)) := by
  obtain ⟨a, b, c, d⟩ := t
  obtain ⟨ha, hb, hc, hd⟩ := ht
  simp only at ha hb hc hd
  refine pcall_body tabOk Try.func22 rfl rfl (by rw [Try.ntmps22]; simp) ?_
  simp only [Try.ntmps22, tv, TapeA, Bs]
  simp only [↓wt, wu, wk0, wk1, wk2, wk3, Nat.reduceAdd, Nat.reduceEqDiff, Nat.reduceLeDiff, Nat.reduceLT, Nat.reduceMul, Int.reduceLE, Int.reduceLT, Int.reduceEq, Int.reduceNe, List.flatMap_cons, List.flatMap_nil]
  have e0 : (if 0 > n then 0 else n) = max n 0 := by split <;> omega
  simp only [↓wt, wu, wk0, wk1, wk2, wk3, Nat.reduceAdd, Nat.reduceEqDiff, Nat.reduceLeDiff, Nat.reduceLT, Nat.reduceMul, Int.reduceLE, Int.reduceLT, Int.reduceEq, Int.reduceNe, List.flatMap_cons, List.flatMap_nil, e0]
  refine draw_rule tabOk mixed [0, 2, 0, 3, 0, 2, 0, 0, 2, 0, 0, 3, 1, 0, 1] [[], [0], [], [0, 1, 2], [], [4], [], [], [7], [7, 8], [6, 7, 8, 9], [0, 1, 2, 3, 4, 5, 6, 7, 8, 9, 10], [0, 1, 2, 3, 4, 5, 6, 7, 8, 9, 10, 11], [0, 1, 2, 3, 4, 5, 6, 7, 8, 9, 10, 11, 12], [0, 1, 2, 3, 4, 5, 6, 7, 8, 9, 10, 11, 12, 13]] (by kernel_rfl) ?_
  simp only [↓wt, wu, wk0, wk1, wk2, wk3, Nat.reduceAdd, Nat.reduceEqDiff, Nat.reduceLeDiff, Nat.reduceLT, Nat.reduceMul, Int.reduceLE, Int.reduceLT, Int.reduceEq, Int.reduceNe, List.flatMap_cons, List.flatMap_nil]
  refine d_pureC (fun M0 => icall_drop [] (first_call a (max n 0) (by omega) (by omega) ha) ⟨arg_l (pureB _), arg_c, trivial⟩ okR_Bs ⟨rfl, rfl⟩) ?_
  have e1 : IntKind.i64.wrap (max n 0 - (a.length : Int)) = max n 0 - (a.length : Int) := by unfold Fit8 at ha; rw [wrap_i64 (by omega) (by omega)]
  simp only [↓wt, wu, wk0, wk1, wk2, wk3, Nat.reduceAdd, Nat.reduceEqDiff, Nat.reduceLeDiff, Nat.reduceLT, Nat.reduceMul, Int.reduceLE, Int.reduceLT, Int.reduceEq, Int.reduceNe, List.flatMap_cons, List.flatMap_nil, Bs, e1]
  refine d_pureC (fun M0 => icall_drop [] (first_call b (max n 0 - a.length) (by unfold Fit8 at ha; omega) (by omega) hb) ⟨arg_l (pureB _), arg_c, trivial⟩ okR_Bs ⟨rfl, rfl⟩) ?_
  simp only [↓wt, wu, wk0, wk1, wk2, wk3, Nat.reduceAdd, Nat.reduceEqDiff, Nat.reduceLeDiff, Nat.reduceLT, Nat.reduceMul, Int.reduceLE, Int.reduceLT, Int.reduceEq, Int.reduceNe, List.flatMap_cons, List.flatMap_nil, Bs]
  refine d_heavyX (by simp only [↓wt, wu, wk0, wk1, wk2, wk3, Nat.reduceAdd, Nat.reduceEqDiff, Nat.reduceLeDiff, Nat.reduceLT, Nat.reduceMul, Int.reduceLE, Int.reduceLT, Int.reduceEq, Int.reduceNe, List.flatMap_cons, List.flatMap_nil]; (repeat (first | refine And.intro (by omega) ?_ | refine And.intro (pureB _) ?_ | refine And.intro ⟨pureB _, pureB _⟩ ?_)); exact ⟨rfl, rfl⟩) ?_
  simp only [↓wt, wu, wk0, wk1, wk2, wk3, Nat.reduceAdd, Nat.reduceEqDiff, Nat.reduceLeDiff, Nat.reduceLT, Nat.reduceMul, Int.reduceLE, Int.reduceLT, Int.reduceEq, Int.reduceNe, List.flatMap_cons, List.flatMap_nil]
  refine d_heavyX (by simp only [↓wt, wu, wk0, wk1, wk2, wk3, Nat.reduceAdd, Nat.reduceEqDiff, Nat.reduceLeDiff, Nat.reduceLT, Nat.reduceMul, Int.reduceLE, Int.reduceLT, Int.reduceEq, Int.reduceNe, List.flatMap_cons, List.flatMap_nil]; (repeat (first | refine And.intro (by omega) ?_ | refine And.intro (pureB _) ?_ | refine And.intro ⟨pureB _, pureB _⟩ ?_)); exact ⟨rfl, rfl⟩) ?_
  simp only [↓wt, wu, wk0, wk1, wk2, wk3, Nat.reduceAdd, Nat.reduceEqDiff, Nat.reduceLeDiff, Nat.reduceLT, Nat.reduceMul, Int.reduceLE, Int.reduceLT, Int.reduceEq, Int.reduceNe, List.flatMap_cons, List.flatMap_nil, Try.results22]
  exact exp_gw ⟨res_B (by simp only [cuT]; congr 1; omega), okR_Bs, res_B (by simp only [cuT]; congr 1; omega), okR_Bs, .refl _, okR_Bs, .refl _, okR_Bs, trivial⟩
set_option maxHeartbeats 2000000 in
theorem rcut_call (t : Tape4) (n : Int) (ht : t.Fit) : PCall Try.prog 23 [tv t, .c (.int .i64 n)] (tv (cuT t n)) := by
  obtain ⟨a, b, c, d⟩ := t
  obtain ⟨ha, hb, hc, hd⟩ := ht
  simp only at ha hb hc hd
  refine pcall_body tabOk Try.func23 rfl rfl (by rw [Try.ntmps23]; simp) ?_
  simp only [Try.ntmps23, tv, TapeA, Bs]
  simp only [↓wt, wu, wk0, wk1, wk2, wk3, Nat.reduceAdd, Nat.reduceEqDiff, Nat.reduceLeDiff, Nat.reduceLT, Nat.reduceMul, Int.reduceLE, Int.reduceLT, Int.reduceEq, Int.reduceNe, List.flatMap_cons, List.flatMap_nil]
  refine icall_drop [] (rbytes_call a b ha hb) ⟨arg_area, trivial⟩ okR_Bs ?_
  simp only [↓wt, wu, wk0, wk1, wk2, wk3, Nat.reduceAdd, Nat.reduceEqDiff, Nat.reduceLeDiff, Nat.reduceLT, Nat.reduceMul, Int.reduceLE, Int.reduceLT, Int.reduceEq, Int.reduceNe, List.flatMap_cons, List.flatMap_nil, Bs]
  refine icall_drop [] (held_call n _) ⟨arg_c, arg_c, trivial⟩ (.c _) ?_
  simp only [↓wt, wu, wk0, wk1, wk2, wk3, Nat.reduceAdd, Nat.reduceEqDiff, Nat.reduceLeDiff, Nat.reduceLT, Nat.reduceMul, Int.reduceLE, Int.reduceLT, Int.reduceEq, Int.reduceNe, List.flatMap_cons, List.flatMap_nil]
  refine icall_drop [] (held_call _ _) ⟨arg_c, arg_c, trivial⟩ (.c _) ?_
  simp only [↓wt, wu, wk0, wk1, wk2, wk3, Nat.reduceAdd, Nat.reduceEqDiff, Nat.reduceLeDiff, Nat.reduceLT, Nat.reduceMul, Int.reduceLE, Int.reduceLT, Int.reduceEq, Int.reduceNe, List.flatMap_cons, List.flatMap_nil]
  refine draw_rule tabOk mixed [0, 0, 0, 0, 0, 0, 0, 1, 0, 1] [[], [], [0, 1], [], [], [], [3, 4, 5], [0, 1, 2, 3, 4, 5, 6], [0, 1, 2, 3, 4, 5, 6, 7], [0, 1, 2, 3, 4, 5, 6, 7, 8]] (by kernel_rfl) ?_
  have q1 := hld_le n (a.length + b.length)
  generalize hN : hld n (a.length + b.length) = N at q1 ⊢
  have q2 := hld_le N a.length
  have q3 : hld N a.length ≤ N := by unfold hld; omega
  generalize hM : hld N a.length = M at q2 q3 ⊢
  simp only [↓wt, wu, wk0, wk1, wk2, wk3, Nat.reduceAdd, Nat.reduceEqDiff, Nat.reduceLeDiff, Nat.reduceLT, Nat.reduceMul, Int.reduceLE, Int.reduceLT, Int.reduceEq, Int.reduceNe, List.flatMap_cons, List.flatMap_nil]
  repeat (refine And.intro (by omega) ?_)
  refine d_heavyX (by simp only [↓wt, wu, wk0, wk1, wk2, wk3, Nat.reduceAdd, Nat.reduceEqDiff, Nat.reduceLeDiff, Nat.reduceLT, Nat.reduceMul, Int.reduceLE, Int.reduceLT, Int.reduceEq, Int.reduceNe, List.flatMap_cons, List.flatMap_nil]; (repeat (first | refine And.intro (by omega) ?_ | refine And.intro (pureB _) ?_ | refine And.intro ⟨pureB _, pureB _⟩ ?_)); exact ⟨rfl, rfl⟩) ?_
  simp only [↓wt, wu, wk0, wk1, wk2, wk3, Nat.reduceAdd, Nat.reduceEqDiff, Nat.reduceLeDiff, Nat.reduceLT, Nat.reduceMul, Int.reduceLE, Int.reduceLT, Int.reduceEq, Int.reduceNe, List.flatMap_cons, List.flatMap_nil]
  refine d_heavyX (by simp only [↓wt, wu, wk0, wk1, wk2, wk3, Nat.reduceAdd, Nat.reduceEqDiff, Nat.reduceLeDiff, Nat.reduceLT, Nat.reduceMul, Int.reduceLE, Int.reduceLT, Int.reduceEq, Int.reduceNe, List.flatMap_cons, List.flatMap_nil]; (repeat (first | refine And.intro (by omega) ?_ | refine And.intro (pureB _) ?_ | refine And.intro ⟨pureB _, pureB _⟩ ?_)); exact ⟨rfl, rfl⟩) ?_
  simp only [↓wt, wu, wk0, wk1, wk2, wk3, Nat.reduceAdd, Nat.reduceEqDiff, Nat.reduceLeDiff, Nat.reduceLT, Nat.reduceMul, Int.reduceLE, Int.reduceLT, Int.reduceEq, Int.reduceNe, List.flatMap_cons, List.flatMap_nil, Try.results23]
  refine exp_gw ⟨res_B ?_, okR_Bs, res_B ?_, okR_Bs, .refl _, okR_Bs, .refl _, okR_Bs, trivial⟩
  · simp only [cuT]
    rw [List.take_append_of_le_length q2, ← hM, ← hN]
    unfold hld
    rw [show min (((min n.toNat (a.length + b.length) : Nat) : Int)).toNat a.length = min n.toNat a.length by omega, ← List.take_eq_take_min]
  · simp only [cuT]
    by_cases g : N ≤ a.length
    · have e1 : M = N := by rw [← hM]; unfold hld; omega
      have e2 : (n - (a.length : Int)).toNat = 0 ∨ b.length = 0 := by rw [← hN] at g; unfold hld at g; omega
      rw [e1, Nat.sub_self, List.take_zero]
      rcases e2 with e2 | e2
      · rw [e2, List.take_zero]
      · rw [List.eq_nil_of_length_eq_zero e2, List.take_nil]
    · have e1 : M = a.length := by rw [← hM]; unfold hld; omega
      rw [e1, List.drop_left]
      rw [List.take_eq_take_min, List.take_eq_take_min (i := (n - (a.length : Int)).toNat)]
      congr 1
      rw [← hN] at g ⊢
      unfold hld at g ⊢
      omega
def lo_I (t : Tape4) (n : Int) (k : Nat) : ASt :=
  ⟨[(1, .c (.int .i64 n)), (2, .p 0 0 0 1), (4, .p 1 0 0 1), (8, .s 2 0 2), (9, .c (.int .i64 2)), (10, .c (.int .i64 k))],
    ⟨[(0, ⟨27, 4, [.g [Bs (if k = 0 then t.a else t.a ++ t.b.take n.toNat), if k = 0 then Bs t.b else .c (.slice none 0 0), Bs (if k = 2 then t.c ++ t.d.take n.toNat else t.c), if k = 2 then .c (.slice none 0 0) else Bs t.d]]⟩),
      (1, ⟨27, 4, [.g [.c (.slice none 0 0), .c (.slice none 0 0), .c (.slice none 0 0), .c (.slice none 0 0)]]⟩), (2, ⟨4, 1, [.c (.bool false), .c (.bool true)]⟩)], 3⟩, 33⟩
set_option maxHeartbeats 2000000 in
theorem lose_call (t : Tape4) (n : Int) (h1 : -9223372036854775808 ≤ n) (h2 : n < 9223372036854775808) (ht : t.Fit) : PCall Try.prog 9 [tv t, .c (.int .i64 n)] (tv (loT t n)) := by
  obtain ⟨a, b, c, d⟩ := t
  obtain ⟨ha, hb, hc, hd⟩ := ht
  simp only at ha hb hc hd
  have ha' := ha
  have hc' := hc
  unfold Fit8 at ha' hc'
  have hb' : (b.take n.toNat).length ≤ 100000000 := by rw [List.length_take]; unfold Fit8 at hb; omega
  have hd' : (d.take n.toNat).length ≤ 100000000 := by rw [List.length_take]; unfold Fit8 at hd; omega
  refine pcall_body tabOk Try.func9 rfl rfl (by rw [Try.ntmps9]; simp) ?_
  simp only [Try.ntmps9, tv, TapeA, Bs]
  simp only [↓wt, wu, wk0, wk1, wk2, wk3, Nat.reduceAdd, Nat.reduceEqDiff, Nat.reduceLeDiff, Nat.reduceLT, Nat.reduceMul, Int.reduceLE, Int.reduceLT, Int.reduceEq, Int.reduceNe, List.flatMap_cons, List.flatMap_nil]
  refine loop_rule tabOk (lo_I ⟨a, b, c, d⟩ n) (fun k => k ≤ 2) (fun k => 2 - k) 0 (by omega) ?_ (fun _ => rfl) ?_
  · simp only [↓wt, wu, wk0, wk1, wk2, wk3, wkf, Nat.reduceAdd, Nat.reduceEqDiff, Nat.reduceLeDiff, Nat.reduceLT, Nat.reduceMul, Int.reduceLE, Int.reduceLT, Int.reduceEq, Int.reduceNe, List.flatMap_cons, List.flatMap_nil, lo_I, Bs]
  · intro k hk
    match k, hk with
    | 0, _ =>
      simp only [lo_I, Bs]
      simp only [↓wt, wu, wk0, wk1, wk2, wk3, Nat.reduceAdd, Nat.reduceEqDiff, Nat.reduceLeDiff, Nat.reduceLT, Nat.reduceMul, Int.reduceLE, Int.reduceLT, Int.reduceEq, Int.reduceNe, List.flatMap_cons, List.flatMap_nil]
      refine area_icall ?_
      simp only [↓wt, wu, wk0, wk1, wk2, wk3, Nat.reduceAdd, Nat.reduceEqDiff, Nat.reduceLeDiff, Nat.reduceLT, Nat.reduceMul, Int.reduceLE, Int.reduceLT, Int.reduceEq, Int.reduceNe, List.flatMap_cons, List.flatMap_nil]
      refine draw_rule tabOk mixed [0, 0, 0, 0, 2, 0, 0, 0, 2, 0, 3, 1, 1, 1, 0, 1] [[], [], [1], [1, 2], [1, 2, 3], [], [5], [5, 6], [5, 6, 7], [], [5, 6, 7, 8, 9], [1, 2, 3, 4, 5, 6, 7, 8, 9, 10], [1, 2, 3, 4, 5, 6, 7, 8, 9, 10, 11], [1, 2, 3, 4, 5, 6, 7, 8, 9, 10, 11, 12], [0, 1, 2, 3, 4, 5, 6, 7, 8, 9, 10, 11, 12, 13], [0, 1, 2, 3, 4, 5, 6, 7, 8, 9, 10, 11, 12, 13, 14]] (by kernel_rfl) ?_
      simp only [↓wt, wu, wk0, wk1, wk2, wk3, Nat.reduceAdd, Nat.reduceEqDiff, Nat.reduceLeDiff, Nat.reduceLT, Nat.reduceMul, Int.reduceLE, Int.reduceLT, Int.reduceEq, Int.reduceNe, List.flatMap_cons, List.flatMap_nil]
      refine d_pureC (fun M0 => icall_drop [] (first_call b n h1 h2 hb) ⟨arg_l (pureB _), arg_c, trivial⟩ okR_Bs ⟨rfl, rfl⟩) ?_
      simp only [↓wt, wu, wk0, wk1, wk2, wk3, Nat.reduceAdd, Nat.reduceEqDiff, Nat.reduceLeDiff, Nat.reduceLT, Nat.reduceMul, Int.reduceLE, Int.reduceLT, Int.reduceEq, Int.reduceNe, List.flatMap_cons, List.flatMap_nil, Bs]
      refine d_heavyX (by simp only [↓wt, wu, wk0, wk1, wk2, wk3, Nat.reduceAdd, Nat.reduceEqDiff, Nat.reduceLeDiff, Nat.reduceLT, Nat.reduceMul, Int.reduceLE, Int.reduceLT, Int.reduceEq, Int.reduceNe, List.flatMap_cons, List.flatMap_nil]; (repeat (first | refine And.intro (by omega) ?_ | refine And.intro (pureB _) ?_ | refine And.intro ⟨pureB _, pureB _⟩ ?_)); exact ⟨rfl, rfl⟩) ?_
      simp only [↓wt, wu, wk0, wk1, wk2, wk3, Nat.reduceAdd, Nat.reduceEqDiff, Nat.reduceLeDiff, Nat.reduceLT, Nat.reduceMul, Int.reduceLE, Int.reduceLT, Int.reduceEq, Int.reduceNe, List.flatMap_cons, List.flatMap_nil]
      refine d_heavyC (icall_drop [3] (concat_call [a, b.take n.toNat] (by simp) (by simp only [List.flatten_cons, List.flatten_nil, List.append_nil, List.length_append]; omega)) ⟨arg_own (by simp) rfl rfl pure_Bs2, trivial⟩ okR_Bs ⟨rfl, rfl⟩) ?_
      simp only [↓wt, wu, wk0, wk1, wk2, wk3, Nat.reduceAdd, Nat.reduceEqDiff, Nat.reduceLeDiff, Nat.reduceLT, Nat.reduceMul, Int.reduceLE, Int.reduceLT, Int.reduceEq, Int.reduceNe, List.flatMap_cons, List.flatMap_nil, Bs, List.flatten_cons, List.flatten_nil]
      refine d_heavyX (by simp only [↓wt, wu, wk0, wk1, wk2, wk3, Nat.reduceAdd, Nat.reduceEqDiff, Nat.reduceLeDiff, Nat.reduceLT, Nat.reduceMul, Int.reduceLE, Int.reduceLT, Int.reduceEq, Int.reduceNe, List.flatMap_cons, List.flatMap_nil]; (repeat (first | refine And.intro (by omega) ?_ | refine And.intro (pureB _) ?_ | refine And.intro ⟨pureB _, pureB _⟩ ?_)); exact ⟨rfl, rfl⟩) ?_
      simp only [↓wt, wu, wk0, wk1, wk2, wk3, Nat.reduceAdd, Nat.reduceEqDiff, Nat.reduceLeDiff, Nat.reduceLT, Nat.reduceMul, Int.reduceLE, Int.reduceLT, Int.reduceEq, Int.reduceNe, List.flatMap_cons, List.flatMap_nil]
      refine d_heavyX (by simp only [↓wt, wu, wk0, wk1, wk2, wk3, Nat.reduceAdd, Nat.reduceEqDiff, Nat.reduceLeDiff, Nat.reduceLT, Nat.reduceMul, Int.reduceLE, Int.reduceLT, Int.reduceEq, Int.reduceNe, List.flatMap_cons, List.flatMap_nil]; (repeat (first | refine And.intro (by omega) ?_ | refine And.intro (pureB _) ?_ | refine And.intro ⟨pureB _, pureB _⟩ ?_)); exact ⟨rfl, rfl⟩) ?_
      have e2 : IntKind.i64.wrap ((0 : Int) + 1) = 1 := by rw [wrap_i64 (by omega) (by omega)]; rfl
      simp only [↓wt, wu, wk0, wk1, wk2, wk3, Nat.reduceAdd, Nat.reduceEqDiff, Nat.reduceLeDiff, Nat.reduceLT, Nat.reduceMul, Int.reduceLE, Int.reduceLT, Int.reduceEq, Int.reduceNe, List.flatMap_cons, List.flatMap_nil, e2]
      refine ⟨1, by omega, by omega, ?_⟩
      simp only [↓wt, wu, wk0, wk1, wk2, wk3, wkf, Nat.reduceAdd, Nat.reduceEqDiff, Nat.reduceLeDiff, Nat.reduceLT, Nat.reduceMul, Int.reduceLE, Int.reduceLT, Int.reduceEq, Int.reduceNe, List.flatMap_cons, List.flatMap_nil, lo_I, Bs, e2]
    | 1, _ =>
      have t1 : Int.toNat 1 = 1 := rfl
      simp only [lo_I, Bs]
      simp only [↓wt, wu, wk0, wk1, wk2, wk3, Nat.reduceAdd, Nat.reduceEqDiff, Nat.reduceLeDiff, Nat.reduceLT, Nat.reduceMul, Int.reduceLE, Int.reduceLT, Int.reduceEq, Int.reduceNe, List.flatMap_cons, List.flatMap_nil, t1]
      refine area_icall ?_
      simp only [↓wt, wu, wk0, wk1, wk2, wk3, Nat.reduceAdd, Nat.reduceEqDiff, Nat.reduceLeDiff, Nat.reduceLT, Nat.reduceMul, Int.reduceLE, Int.reduceLT, Int.reduceEq, Int.reduceNe, List.flatMap_cons, List.flatMap_nil]
      refine draw_rule tabOk mixed [0, 0, 0, 0, 2, 0, 0, 0, 2, 0, 3, 1, 1, 1, 0, 1] [[], [], [1], [1, 2], [1, 2, 3], [], [5], [5, 6], [5, 6, 7], [], [5, 6, 7, 8, 9], [1, 2, 3, 4, 5, 6, 7, 8, 9, 10], [1, 2, 3, 4, 5, 6, 7, 8, 9, 10, 11], [1, 2, 3, 4, 5, 6, 7, 8, 9, 10, 11, 12], [0, 1, 2, 3, 4, 5, 6, 7, 8, 9, 10, 11, 12, 13], [0, 1, 2, 3, 4, 5, 6, 7, 8, 9, 10, 11, 12, 13, 14]] (by kernel_rfl) ?_
      simp only [↓wt, wu, wk0, wk1, wk2, wk3, Nat.reduceAdd, Nat.reduceEqDiff, Nat.reduceLeDiff, Nat.reduceLT, Nat.reduceMul, Int.reduceLE, Int.reduceLT, Int.reduceEq, Int.reduceNe, List.flatMap_cons, List.flatMap_nil]
      refine d_pureC (fun M0 => icall_drop [] (first_call d n h1 h2 hd) ⟨arg_l (pureB _), arg_c, trivial⟩ okR_Bs ⟨rfl, rfl⟩) ?_
      simp only [↓wt, wu, wk0, wk1, wk2, wk3, Nat.reduceAdd, Nat.reduceEqDiff, Nat.reduceLeDiff, Nat.reduceLT, Nat.reduceMul, Int.reduceLE, Int.reduceLT, Int.reduceEq, Int.reduceNe, List.flatMap_cons, List.flatMap_nil, Bs]
      refine d_heavyX (by simp only [↓wt, wu, wk0, wk1, wk2, wk3, Nat.reduceAdd, Nat.reduceEqDiff, Nat.reduceLeDiff, Nat.reduceLT, Nat.reduceMul, Int.reduceLE, Int.reduceLT, Int.reduceEq, Int.reduceNe, List.flatMap_cons, List.flatMap_nil]; (repeat (first | refine And.intro (by omega) ?_ | refine And.intro (pureB _) ?_ | refine And.intro ⟨pureB _, pureB _⟩ ?_)); exact ⟨rfl, rfl⟩) ?_
      simp only [↓wt, wu, wk0, wk1, wk2, wk3, Nat.reduceAdd, Nat.reduceEqDiff, Nat.reduceLeDiff, Nat.reduceLT, Nat.reduceMul, Int.reduceLE, Int.reduceLT, Int.reduceEq, Int.reduceNe, List.flatMap_cons, List.flatMap_nil]
      refine d_heavyC (icall_drop [3] (concat_call [c, d.take n.toNat] (by simp) (by simp only [List.flatten_cons, List.flatten_nil, List.append_nil, List.length_append]; omega)) ⟨arg_own (by simp) rfl rfl pure_Bs2, trivial⟩ okR_Bs ⟨rfl, rfl⟩) ?_
      simp only [↓wt, wu, wk0, wk1, wk2, wk3, Nat.reduceAdd, Nat.reduceEqDiff, Nat.reduceLeDiff, Nat.reduceLT, Nat.reduceMul, Int.reduceLE, Int.reduceLT, Int.reduceEq, Int.reduceNe, List.flatMap_cons, List.flatMap_nil, Bs, List.flatten_cons, List.flatten_nil]
      refine d_heavyX (by simp only [↓wt, wu, wk0, wk1, wk2, wk3, Nat.reduceAdd, Nat.reduceEqDiff, Nat.reduceLeDiff, Nat.reduceLT, Nat.reduceMul, Int.reduceLE, Int.reduceLT, Int.reduceEq, Int.reduceNe, List.flatMap_cons, List.flatMap_nil]; (repeat (first | refine And.intro (by omega) ?_ | refine And.intro (pureB _) ?_ | refine And.intro ⟨pureB _, pureB _⟩ ?_)); exact ⟨rfl, rfl⟩) ?_
      simp only [↓wt, wu, wk0, wk1, wk2, wk3, Nat.reduceAdd, Nat.reduceEqDiff, Nat.reduceLeDiff, Nat.reduceLT, Nat.reduceMul, Int.reduceLE, Int.reduceLT, Int.reduceEq, Int.reduceNe, List.flatMap_cons, List.flatMap_nil]
      refine d_heavyX (by simp only [↓wt, wu, wk0, wk1, wk2, wk3, Nat.reduceAdd, Nat.reduceEqDiff, Nat.reduceLeDiff, Nat.reduceLT, Nat.reduceMul, Int.reduceLE, Int.reduceLT, Int.reduceEq, Int.reduceNe, List.flatMap_cons, List.flatMap_nil]; (repeat (first | refine And.intro (by omega) ?_ | refine And.intro (pureB _) ?_ | refine And.intro ⟨pureB _, pureB _⟩ ?_)); exact ⟨rfl, rfl⟩) ?_
      have e2 : IntKind.i64.wrap ((1 : Int) + 1) = 2 := by rw [wrap_i64 (by omega) (by omega)]; rfl
      simp only [↓wt, wu, wk0, wk1, wk2, wk3, Nat.reduceAdd, Nat.reduceEqDiff, Nat.reduceLeDiff, Nat.reduceLT, Nat.reduceMul, Int.reduceLE, Int.reduceLT, Int.reduceEq, Int.reduceNe, List.flatMap_cons, List.flatMap_nil, e2]
      refine ⟨2, by omega, by omega, ?_⟩
      simp only [↓wt, wu, wk0, wk1, wk2, wk3, wkf, Nat.reduceAdd, Nat.reduceEqDiff, Nat.reduceLeDiff, Nat.reduceLT, Nat.reduceMul, Int.reduceLE, Int.reduceLT, Int.reduceEq, Int.reduceNe, List.flatMap_cons, List.flatMap_nil, lo_I, Bs, e2]
    | 2, _ =>
      simp only [lo_I, Bs]
      simp only [↓wt, wu, wk0, wk1, wk2, wk3, Nat.reduceAdd, Nat.reduceEqDiff, Nat.reduceLeDiff, Nat.reduceLT, Nat.reduceMul, Int.reduceLE, Int.reduceLT, Int.reduceEq, Int.reduceNe, List.flatMap_cons, List.flatMap_nil, Try.results9]
      exact exp_gw ⟨.refl _, okR_Bs, trivial, okR_nil, .refl _, okR_Bs, trivial, okR_nil, trivial⟩
    | k + 3, h => omega
set_option maxHeartbeats 2000000 in
theorem same_call (t : Tape4) : PCall Try.prog 12 [tv t, tv t] (.c (.bool true)) := by
  obtain ⟨a, b, c, d⟩ := t
  refine pcall_body tabOk Try.func12 rfl rfl (by rw [Try.ntmps12]; simp) ?_
  simp only [Try.ntmps12, tv, TapeA, Bs]
  simp only [↓wt, wu, wk0, wk1, wk2, wk3, Nat.reduceAdd, Nat.reduceEqDiff, Nat.reduceLeDiff, Nat.reduceLT, Nat.reduceMul, Int.reduceLE, Int.reduceLT, Int.reduceEq, Int.reduceNe, List.flatMap_cons, List.flatMap_nil, Try.results12]
  exact exp_c
set_option maxHeartbeats 2000000 in
theorem short_call (t : Tape4) : PCall Try.prog 13 [tv t] (.c (.bool (decide (t.a.length ≤ 70000 ∧ t.b.length ≤ 70000 ∧ t.c.length ≤ 70000 ∧ t.d.length ≤ 70000)))) := by
  obtain ⟨a, b, c, d⟩ := t
  refine pcall_body tabOk Try.func13 rfl rfl (by rw [Try.ntmps13]; simp) ?_
  simp only [Try.ntmps13, tv, TapeA, Bs]
  simp only [↓wt, wu, wk0, wk1, wk2, wk3, Nat.reduceAdd, Nat.reduceEqDiff, Nat.reduceLeDiff, Nat.reduceLT, Nat.reduceMul, Int.reduceLE, Int.reduceLT, Int.reduceEq, Int.reduceNe, List.flatMap_cons, List.flatMap_nil]
  cases f0 : decide ((a.length : Int) ≤ 70000) with
  | false =>
    have g0 := of_decide_eq_false f0
    simp only [↓wt, wu, wk0, wk1, wk2, wk3, Nat.reduceAdd, Nat.reduceEqDiff, Nat.reduceLeDiff, Nat.reduceLT, Nat.reduceMul, Int.reduceLE, Int.reduceLT, Int.reduceEq, Int.reduceNe, List.flatMap_cons, List.flatMap_nil, Try.results13]
    exact exp_b (by simp only [eq_comm (a := false), decide_eq_false_iff_not]; omega)
  | true =>
    have g0 := of_decide_eq_true f0
    simp only [↓wt, wu, wk0, wk1, wk2, wk3, Nat.reduceAdd, Nat.reduceEqDiff, Nat.reduceLeDiff, Nat.reduceLT, Nat.reduceMul, Int.reduceLE, Int.reduceLT, Int.reduceEq, Int.reduceNe, List.flatMap_cons, List.flatMap_nil]
    cases f1 : decide ((b.length : Int) ≤ 70000) with
    | false =>
      have g1 := of_decide_eq_false f1
      simp only [↓wt, wu, wk0, wk1, wk2, wk3, Nat.reduceAdd, Nat.reduceEqDiff, Nat.reduceLeDiff, Nat.reduceLT, Nat.reduceMul, Int.reduceLE, Int.reduceLT, Int.reduceEq, Int.reduceNe, List.flatMap_cons, List.flatMap_nil, Try.results13]
      exact exp_b (by simp only [eq_comm (a := false), decide_eq_false_iff_not]; omega)
    | true =>
      have g1 := of_decide_eq_true f1
      simp only [↓wt, wu, wk0, wk1, wk2, wk3, Nat.reduceAdd, Nat.reduceEqDiff, Nat.reduceLeDiff, Nat.reduceLT, Nat.reduceMul, Int.reduceLE, Int.reduceLT, Int.reduceEq, Int.reduceNe, List.flatMap_cons, List.flatMap_nil]
      cases f2 : decide ((c.length : Int) ≤ 70000) with
      | false =>
        have g2 := of_decide_eq_false f2
        simp only [↓wt, wu, wk0, wk1, wk2, wk3, Nat.reduceAdd, Nat.reduceEqDiff, Nat.reduceLeDiff, Nat.reduceLT, Nat.reduceMul, Int.reduceLE, Int.reduceLT, Int.reduceEq, Int.reduceNe, List.flatMap_cons, List.flatMap_nil, Try.results13]
        exact exp_b (by simp only [eq_comm (a := false), decide_eq_false_iff_not]; omega)
      | true =>
        have g2 := of_decide_eq_true f2
        simp only [↓wt, wu, wk0, wk1, wk2, wk3, Nat.reduceAdd, Nat.reduceEqDiff, Nat.reduceLeDiff, Nat.reduceLT, Nat.reduceMul, Int.reduceLE, Int.reduceLT, Int.reduceEq, Int.reduceNe, List.flatMap_cons, List.flatMap_nil]
        cases f3 : decide ((d.length : Int) ≤ 70000) with
        | false =>
          have g3 := of_decide_eq_false f3
          simp only [↓wt, wu, wk0, wk1, wk2, wk3, Nat.reduceAdd, Nat.reduceEqDiff, Nat.reduceLeDiff, Nat.reduceLT, Nat.reduceMul, Int.reduceLE, Int.reduceLT, Int.reduceEq, Int.reduceNe, List.flatMap_cons, List.flatMap_nil, Try.results13]
          exact exp_b (by simp only [eq_comm (a := false), decide_eq_false_iff_not]; omega)
        | true =>
          have g3 := of_decide_eq_true f3
          simp only [↓wt, wu, wk0, wk1, wk2, wk3, Nat.reduceAdd, Nat.reduceEqDiff, Nat.reduceLeDiff, Nat.reduceLT, Nat.reduceMul, Int.reduceLE, Int.reduceLT, Int.reduceEq, Int.reduceNe, List.flatMap_cons, List.flatMap_nil, Try.results13]
          exact exp_b (by simp only [eq_comm (a := true), decide_eq_true_eq]; omega)
end Go.Ab
